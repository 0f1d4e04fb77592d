/- An empty dictionary of the document (printed by genD7.py). An entry laid into a table by the document. An entry put into a dictionary by the document, which grows first if it has to. -/
import Derived.Outline
import Derived.Test.YtbhdgeoljlhmcaaQB17
namespace Go.Proofs.Ytbhdgeoljlhmcaa
open Go.RowKit Go.Proofs.Ytbhdgeoljlhmcaa.Nm Go.Proofs.Ytbhdgeoljlhmcaa.St
set_option linter.unusedSimpArgs false
theorem run_mkS {w : World} {n B : Nat} (hn : n ≤ 1000000) (hB : B ≤ w.heap.size) :
    ∃ w', (Instr.makeSlice 29 (.int .i64 (n : Int)) (.int .i64 (n : Int))).run Try.prog w = .ok (.slice (some ⟨w.heap.size, 0, none⟩) n n) w' ∧ w'.ownsRow B 9 1 (.slice (some ⟨w.heap.size, 0, none⟩) n n) n (strs ((List.replicate n (none : Option (ByteArray × Int))).map ek)) ∧ w.grownBy w' none := by
  obtain ⟨i0, hi, hz0, hz1, hz2⟩ := info_parts info9
  obtain ⟨w', h1, h2, h3⟩ := run_makeSlice_full (P := Try.prog) w B 29 9 i0 _ 1 u29 hi hz0 hz1 .i64 .i64 n (by omega) (by rw [hz2]; omega) (by unfold maxLen; omega) hB
  refine ⟨w', h1, ?_, h3⟩
  rw [show strs ((List.replicate n (none : Option (ByteArray × Int))).map ek) = List.replicate n (.string ⟨#[]⟩) by simp [strs, ek]]
  rw [show (Value.string ⟨#[]⟩).cells = #[Value.string ⟨#[]⟩] from rfl, madeZ] at h2
  exact h2
theorem run_mkI {w : World} {n B : Nat} (hn : n ≤ 1000000) (hB : B ≤ w.heap.size) :
    ∃ w', (Instr.makeSlice 63 (.int .i64 (n : Int)) (.int .i64 (n : Int))).run Try.prog w = .ok (.slice (some ⟨w.heap.size, 0, none⟩) n n) w' ∧ w'.ownsRow B 3 1 (.slice (some ⟨w.heap.size, 0, none⟩) n n) n (ints ((List.replicate n (none : Option (ByteArray × Int))).map ev)) ∧ w.grownBy w' none := by
  obtain ⟨i0, hi, hz0, hz1, hz2⟩ := info_parts info3b
  obtain ⟨w', h1, h2, h3⟩ := run_makeSlice_full (P := Try.prog) w B 63 3 i0 _ 1 u63 hi hz0 hz1 .i64 .i64 n (by omega) (by rw [hz2]; omega) (by unfold maxLen; omega) hB
  refine ⟨w', h1, ?_, h3⟩
  rw [show ints ((List.replicate n (none : Option (ByteArray × Int))).map ev) = List.replicate n (.int .i64 0) by simp [ints, ev]]
  rw [show (Value.int .i64 0).cells = #[Value.int .i64 0] from rfl, madeZ] at h2
  exact h2
theorem built105t (A2 A3 A4 : Option Addr) (n2 n3 n4 c2 c3 c4 : Nat) (seed : Int) : Try.prog.built 105 [(5, .bool true), (1, .int .i64 seed), (2, .slice A2 n2 c2), (3, .slice A3 n3 c3), (4, .slice A4 n4 c4)] = some (rcells (.slice none 0 0) seed (.slice A2 n2 c2) (.slice A3 n3 c3) (.slice A4 n4 c4) true) := by kernel_rfl
set_option maxHeartbeats 8000000 in
set_option maxRecDepth 100000 in
theorem tableI_any (seed : Int) (n : Nat) (hn : n ≤ 100000) (w : World) :
    Calls Try.prog 66 #[.int .i64 seed, .int .i64 (n : Int)] w fun e w' => ∃ v', e = .returned v' ∧ RAt w' w.heap.size v' ⟨2, [], seed, List.replicate n none⟩ ∧ Below w.heap.size w w' := by
  go_enter Try.func66, Try.ntmps66
  go_upto_region 1 with (fail)
  refine wp_world (fun W => Below w.heap.size w W ∧ W.heap[w.heap.size]? = some (.cells noR 105 (0, 0))) ⟨(Below.refl w.heap.size w).alloc (Nat.le_refl _) _, ha_new rfl⟩ ?_
  rintro W ⟨hb, g1⟩
  have HB := Lib.hid hb
  have HG1 := Lib.hid g1
  have LG := heap_lt g1
  clear hb g1
  replace HG1 : Hid (W.drew.heap[w.heap.size]? = _) := HG1
  refine wp_region_held_drew (S := Kept [w.heap.size] W) mixed (Kept.drew [w.heap.size] W) (fun hS => ?_)
  refine hk3 (i := 0) rfl (by kernel_rfl) Zh hS rfl (fun K hK => ?_); go_simp; refine hK _ ?_; clear hK K; try simp only [Zq]
  refine hk3 (i := 1) rfl (by kernel_rfl) Zh hS rfl (fun K hK => ?_); go_simp; refine hK _ ?_; clear hK K; try simp only [Zq]
  refine hk3 (i := 3) rfl (by kernel_rfl) Zh hS rfl (fun K hK => ?_); go_simp; refine hK _ ?_; clear hK K; try simp only [Zq]
  refine hk3 (i := 5) rfl (by kernel_rfl) Zh hS rfl (fun K hK => ?_); go_simp; refine hK _ ?_; clear hK K; try simp only [Zq]
  refine ha_three (i := 2) (j := 4) (k := 6) (by kernel_rfl) ?_ ?_ ?_
  · obtain ⟨w1, hr, hom, hgm⟩ := run_mkS (w := W.drew) (n := n) (B := w.heap.size) (by omega) (Nat.le_trans HB.out.size hS.size)
    have hb1 := (Below.refl (W.drew).heap.size (W.drew)).grown hgm (Nat.le_refl _) (fun q hq => by cases hq)
    have hSn := hS.below hb1
    refine sh_w (i := 2) rfl rfl (ex_mkS _ _ rfl rfl rfl hr) hSn ?_; try simp only [Zy]
    replace hS := hSn
    clear hSn
    replace HG1 := Lib.hid (below_look hb1 HG1.out)
    have HO2 := Lib.hid hom
    generalize (W.drew).heap.size = p2 at HO2 ⊢
    clear hr hom hgm hb1
    refine ha_two (i := 4) (j := 6) (by kernel_rfl) ?_ ?_
    · obtain ⟨w2, hr, hom, hgm⟩ := run_mkI (w := w1) (n := n) (B := w.heap.size) (by omega) (Nat.le_trans HB.out.size hS.size)
      have hb1 := (Below.refl (w1).heap.size (w1)).grown hgm (Nat.le_refl _) (fun q hq => by cases hq)
      have hSn := hS.below hb1
      refine sh_w (i := 4) rfl rfl (ex_mkS _ _ rfl rfl rfl hr) hSn ?_; try simp only [Zy]
      replace hS := hSn
      clear hSn
      replace HO2 := Lib.hid (own_below HO2.out hb1)
      replace HG1 := Lib.hid (below_look hb1 HG1.out)
      have HO3 := Lib.hid hom
      generalize (w1).heap.size = p3 at HO3 ⊢
      clear hr hom hgm hb1
      obtain ⟨w3, hr, hom, hgm⟩ := run_mkB (w := w2) (n := n) (B := w.heap.size) (by omega) (Nat.le_trans HB.out.size hS.size)
      have hb1 := (Below.refl (w2).heap.size (w2)).grown hgm (Nat.le_refl _) (fun q hq => by cases hq)
      have hSn := hS.below hb1
      refine ha_do (i := 6) (by kernel_rfl) rfl rfl (ex_mkS _ _ rfl rfl rfl hr) hSn ?_; try simp only [Zy]
      replace hS := hSn
      clear hSn
      replace HO2 := Lib.hid (own_below HO2.out hb1)
      replace HO3 := Lib.hid (own_below HO3.out hb1)
      replace HG1 := Lib.hid (below_look hb1 HG1.out)
      have HO4 := Lib.hid hom
      generalize (w2).heap.size = p4 at HO4 ⊢
      clear hr hom hgm hb1
      (refine hv3 (i := 7) rfl (by kernel_rfl) Zg hS rfl (fun w' hw' => ex_build 105 _ rfl (L := [(5, .bool true), (1, .int .i64 seed), (2, .slice (some ⟨p2, 0, none⟩) n n), (3, .slice (some ⟨p3, 0, none⟩) n n), (4, .slice (some ⟨p4, 0, none⟩) n n)]) rfl (built105t _ _ _ _ _ _ _ _ _ _)) ?_; try simp only [Zq])
      have hg := HG1.out
      have hbz := below_setRow (HB.out.trans (hS.toBelow HB.out.size (by simp))) (g := w.heap.size) (Nat.le_refl _) (rcells (.slice none 0 0) seed (.slice (some ⟨p2, 0, none⟩) n n) (.slice (some ⟨p3, 0, none⟩) n n) (.slice (some ⟨p4, 0, none⟩) n n) true)
      have hfin := hr_new (cs := rcells (.slice none 0 0) seed (.slice (some ⟨p2, 0, none⟩) n n) (.slice (some ⟨p3, 0, none⟩) n n) (.slice (some ⟨p4, 0, none⟩) n n) true) hg
      have hoth : ∀ {e : TypeId} {m : Nat} {x : Value} {xs : List Value}, World.ownsRow w3 w.heap.size e 1 x m xs → e ≠ 105 → (World.setRow w3 w.heap.size (rcells (.slice none 0 0) seed (.slice (some ⟨p2, 0, none⟩) n n) (.slice (some ⟨p3, 0, none⟩) n n) (.slice (some ⟨p4, 0, none⟩) n n) true)).ownsRow w.heap.size e 1 x m xs := fun h he => own_same h (fun q hq hx => setRow_other _ _ _ _ (fun e2 => by
        obtain ⟨_, cc, hcc⟩ := own_block h hx
        rw [e2, hg] at hcc; simp only [Option.some.injEq, Obj.cells.injEq] at hcc; exact he hcc.2.1.symm))
      have hRA : RSl (World.setRow w3 w.heap.size (rcells (.slice none 0 0) seed (.slice (some ⟨p2, 0, none⟩) n n) (.slice (some ⟨p3, 0, none⟩) n n) (.slice (some ⟨p4, 0, none⟩) n n) true)) w.heap.size (.slice none 0 0) (.slice (some ⟨p2, 0, none⟩) n n) (.slice (some ⟨p3, 0, none⟩) n n) (.slice (some ⟨p4, 0, none⟩) n n) [] (List.replicate n none) :=
        ⟨own_nil _ _ _ _, by rw [List.length_replicate]; exact hoth HO2.out (by decide), by rw [List.length_replicate]; exact hoth HO3.out (by decide), by rw [List.length_replicate, List.map_replicate]; exact hoth HO4.out (by decide), fun q h => by cases h⟩
      have HRA := Lib.hid hRA
      have HFIN := Lib.hid hfin
      have HBZ := Lib.hid hbz
      refine ha_store (i := 8) (by kernel_rfl) rfl rfl 105 _ _ rfl w.heap.size (rcells (.slice none 0 0) seed (.slice (some ⟨p2, 0, none⟩) n n) (.slice (some ⟨p3, 0, none⟩) n n) (.slice (some ⟨p4, 0, none⟩) n n) true) rfl rfl 105 _ hg info105 rfl (rcells_one _ _ _ _ _ _ _ _ _ _ _ _ _ _) (hS.setRow (by simp) _) (fun hS => ?_); try simp only [Zq]
      refine wpAnyH_done (by kernel_rfl) ?_ _
      clear hS hg hbz hfin hoth hRA HO2 HO3 HO4
      go_wp2_with fail
      exact bodyPost_ret (res_105 rfl _ _ w.heap.size rfl HFIN.out) rfl ⟨_, rfl, ⟨_, _, _, _, rfl, HRA.out⟩, HBZ.out⟩
    · obtain ⟨w2, hr, hom, hgm⟩ := run_mkB (w := w1) (n := n) (B := w.heap.size) (by omega) (Nat.le_trans HB.out.size hS.size)
      have hb1 := (Below.refl (w1).heap.size (w1)).grown hgm (Nat.le_refl _) (fun q hq => by cases hq)
      have hSn := hS.below hb1
      refine sh_w (i := 6) rfl rfl (ex_mkS _ _ rfl rfl rfl hr) hSn ?_; try simp only [Zy]
      replace hS := hSn
      clear hSn
      replace HO2 := Lib.hid (own_below HO2.out hb1)
      replace HG1 := Lib.hid (below_look hb1 HG1.out)
      have HO4 := Lib.hid hom
      generalize (w1).heap.size = p4 at HO4 ⊢
      clear hr hom hgm hb1
      obtain ⟨w3, hr, hom, hgm⟩ := run_mkI (w := w2) (n := n) (B := w.heap.size) (by omega) (Nat.le_trans HB.out.size hS.size)
      have hb1 := (Below.refl (w2).heap.size (w2)).grown hgm (Nat.le_refl _) (fun q hq => by cases hq)
      have hSn := hS.below hb1
      refine ha_do (i := 4) (by kernel_rfl) rfl rfl (ex_mkS _ _ rfl rfl rfl hr) hSn ?_; try simp only [Zy]
      replace hS := hSn
      clear hSn
      replace HO2 := Lib.hid (own_below HO2.out hb1)
      replace HO4 := Lib.hid (own_below HO4.out hb1)
      replace HG1 := Lib.hid (below_look hb1 HG1.out)
      have HO3 := Lib.hid hom
      generalize (w2).heap.size = p3 at HO3 ⊢
      clear hr hom hgm hb1
      (refine hv3 (i := 7) rfl (by kernel_rfl) Zg hS rfl (fun w' hw' => ex_build 105 _ rfl (L := [(5, .bool true), (1, .int .i64 seed), (2, .slice (some ⟨p2, 0, none⟩) n n), (3, .slice (some ⟨p3, 0, none⟩) n n), (4, .slice (some ⟨p4, 0, none⟩) n n)]) rfl (built105t _ _ _ _ _ _ _ _ _ _)) ?_; try simp only [Zq])
      have hg := HG1.out
      have hbz := below_setRow (HB.out.trans (hS.toBelow HB.out.size (by simp))) (g := w.heap.size) (Nat.le_refl _) (rcells (.slice none 0 0) seed (.slice (some ⟨p2, 0, none⟩) n n) (.slice (some ⟨p3, 0, none⟩) n n) (.slice (some ⟨p4, 0, none⟩) n n) true)
      have hfin := hr_new (cs := rcells (.slice none 0 0) seed (.slice (some ⟨p2, 0, none⟩) n n) (.slice (some ⟨p3, 0, none⟩) n n) (.slice (some ⟨p4, 0, none⟩) n n) true) hg
      have hoth : ∀ {e : TypeId} {m : Nat} {x : Value} {xs : List Value}, World.ownsRow w3 w.heap.size e 1 x m xs → e ≠ 105 → (World.setRow w3 w.heap.size (rcells (.slice none 0 0) seed (.slice (some ⟨p2, 0, none⟩) n n) (.slice (some ⟨p3, 0, none⟩) n n) (.slice (some ⟨p4, 0, none⟩) n n) true)).ownsRow w.heap.size e 1 x m xs := fun h he => own_same h (fun q hq hx => setRow_other _ _ _ _ (fun e2 => by
        obtain ⟨_, cc, hcc⟩ := own_block h hx
        rw [e2, hg] at hcc; simp only [Option.some.injEq, Obj.cells.injEq] at hcc; exact he hcc.2.1.symm))
      have hRA : RSl (World.setRow w3 w.heap.size (rcells (.slice none 0 0) seed (.slice (some ⟨p2, 0, none⟩) n n) (.slice (some ⟨p3, 0, none⟩) n n) (.slice (some ⟨p4, 0, none⟩) n n) true)) w.heap.size (.slice none 0 0) (.slice (some ⟨p2, 0, none⟩) n n) (.slice (some ⟨p3, 0, none⟩) n n) (.slice (some ⟨p4, 0, none⟩) n n) [] (List.replicate n none) :=
        ⟨own_nil _ _ _ _, by rw [List.length_replicate]; exact hoth HO2.out (by decide), by rw [List.length_replicate]; exact hoth HO3.out (by decide), by rw [List.length_replicate, List.map_replicate]; exact hoth HO4.out (by decide), fun q h => by cases h⟩
      have HRA := Lib.hid hRA
      have HFIN := Lib.hid hfin
      have HBZ := Lib.hid hbz
      refine ha_store (i := 8) (by kernel_rfl) rfl rfl 105 _ _ rfl w.heap.size (rcells (.slice none 0 0) seed (.slice (some ⟨p2, 0, none⟩) n n) (.slice (some ⟨p3, 0, none⟩) n n) (.slice (some ⟨p4, 0, none⟩) n n) true) rfl rfl 105 _ hg info105 rfl (rcells_one _ _ _ _ _ _ _ _ _ _ _ _ _ _) (hS.setRow (by simp) _) (fun hS => ?_); try simp only [Zq]
      refine wpAnyH_done (by kernel_rfl) ?_ _
      clear hS hg hbz hfin hoth hRA HO2 HO3 HO4
      go_wp2_with fail
      exact bodyPost_ret (res_105 rfl _ _ w.heap.size rfl HFIN.out) rfl ⟨_, rfl, ⟨_, _, _, _, rfl, HRA.out⟩, HBZ.out⟩
  · obtain ⟨w1, hr, hom, hgm⟩ := run_mkI (w := W.drew) (n := n) (B := w.heap.size) (by omega) (Nat.le_trans HB.out.size hS.size)
    have hb1 := (Below.refl (W.drew).heap.size (W.drew)).grown hgm (Nat.le_refl _) (fun q hq => by cases hq)
    have hSn := hS.below hb1
    refine sh_w (i := 4) rfl rfl (ex_mkS _ _ rfl rfl rfl hr) hSn ?_; try simp only [Zy]
    replace hS := hSn
    clear hSn
    replace HG1 := Lib.hid (below_look hb1 HG1.out)
    have HO3 := Lib.hid hom
    generalize (W.drew).heap.size = p3 at HO3 ⊢
    clear hr hom hgm hb1
    refine ha_two (i := 2) (j := 6) (by kernel_rfl) ?_ ?_
    · obtain ⟨w2, hr, hom, hgm⟩ := run_mkS (w := w1) (n := n) (B := w.heap.size) (by omega) (Nat.le_trans HB.out.size hS.size)
      have hb1 := (Below.refl (w1).heap.size (w1)).grown hgm (Nat.le_refl _) (fun q hq => by cases hq)
      have hSn := hS.below hb1
      refine sh_w (i := 2) rfl rfl (ex_mkS _ _ rfl rfl rfl hr) hSn ?_; try simp only [Zy]
      replace hS := hSn
      clear hSn
      replace HO3 := Lib.hid (own_below HO3.out hb1)
      replace HG1 := Lib.hid (below_look hb1 HG1.out)
      have HO2 := Lib.hid hom
      generalize (w1).heap.size = p2 at HO2 ⊢
      clear hr hom hgm hb1
      obtain ⟨w3, hr, hom, hgm⟩ := run_mkB (w := w2) (n := n) (B := w.heap.size) (by omega) (Nat.le_trans HB.out.size hS.size)
      have hb1 := (Below.refl (w2).heap.size (w2)).grown hgm (Nat.le_refl _) (fun q hq => by cases hq)
      have hSn := hS.below hb1
      refine ha_do (i := 6) (by kernel_rfl) rfl rfl (ex_mkS _ _ rfl rfl rfl hr) hSn ?_; try simp only [Zy]
      replace hS := hSn
      clear hSn
      replace HO3 := Lib.hid (own_below HO3.out hb1)
      replace HO2 := Lib.hid (own_below HO2.out hb1)
      replace HG1 := Lib.hid (below_look hb1 HG1.out)
      have HO4 := Lib.hid hom
      generalize (w2).heap.size = p4 at HO4 ⊢
      clear hr hom hgm hb1
      (refine hv3 (i := 7) rfl (by kernel_rfl) Zg hS rfl (fun w' hw' => ex_build 105 _ rfl (L := [(5, .bool true), (1, .int .i64 seed), (2, .slice (some ⟨p2, 0, none⟩) n n), (3, .slice (some ⟨p3, 0, none⟩) n n), (4, .slice (some ⟨p4, 0, none⟩) n n)]) rfl (built105t _ _ _ _ _ _ _ _ _ _)) ?_; try simp only [Zq])
      have hg := HG1.out
      have hbz := below_setRow (HB.out.trans (hS.toBelow HB.out.size (by simp))) (g := w.heap.size) (Nat.le_refl _) (rcells (.slice none 0 0) seed (.slice (some ⟨p2, 0, none⟩) n n) (.slice (some ⟨p3, 0, none⟩) n n) (.slice (some ⟨p4, 0, none⟩) n n) true)
      have hfin := hr_new (cs := rcells (.slice none 0 0) seed (.slice (some ⟨p2, 0, none⟩) n n) (.slice (some ⟨p3, 0, none⟩) n n) (.slice (some ⟨p4, 0, none⟩) n n) true) hg
      have hoth : ∀ {e : TypeId} {m : Nat} {x : Value} {xs : List Value}, World.ownsRow w3 w.heap.size e 1 x m xs → e ≠ 105 → (World.setRow w3 w.heap.size (rcells (.slice none 0 0) seed (.slice (some ⟨p2, 0, none⟩) n n) (.slice (some ⟨p3, 0, none⟩) n n) (.slice (some ⟨p4, 0, none⟩) n n) true)).ownsRow w.heap.size e 1 x m xs := fun h he => own_same h (fun q hq hx => setRow_other _ _ _ _ (fun e2 => by
        obtain ⟨_, cc, hcc⟩ := own_block h hx
        rw [e2, hg] at hcc; simp only [Option.some.injEq, Obj.cells.injEq] at hcc; exact he hcc.2.1.symm))
      have hRA : RSl (World.setRow w3 w.heap.size (rcells (.slice none 0 0) seed (.slice (some ⟨p2, 0, none⟩) n n) (.slice (some ⟨p3, 0, none⟩) n n) (.slice (some ⟨p4, 0, none⟩) n n) true)) w.heap.size (.slice none 0 0) (.slice (some ⟨p2, 0, none⟩) n n) (.slice (some ⟨p3, 0, none⟩) n n) (.slice (some ⟨p4, 0, none⟩) n n) [] (List.replicate n none) :=
        ⟨own_nil _ _ _ _, by rw [List.length_replicate]; exact hoth HO2.out (by decide), by rw [List.length_replicate]; exact hoth HO3.out (by decide), by rw [List.length_replicate, List.map_replicate]; exact hoth HO4.out (by decide), fun q h => by cases h⟩
      have HRA := Lib.hid hRA
      have HFIN := Lib.hid hfin
      have HBZ := Lib.hid hbz
      refine ha_store (i := 8) (by kernel_rfl) rfl rfl 105 _ _ rfl w.heap.size (rcells (.slice none 0 0) seed (.slice (some ⟨p2, 0, none⟩) n n) (.slice (some ⟨p3, 0, none⟩) n n) (.slice (some ⟨p4, 0, none⟩) n n) true) rfl rfl 105 _ hg info105 rfl (rcells_one _ _ _ _ _ _ _ _ _ _ _ _ _ _) (hS.setRow (by simp) _) (fun hS => ?_); try simp only [Zq]
      refine wpAnyH_done (by kernel_rfl) ?_ _
      clear hS hg hbz hfin hoth hRA HO2 HO3 HO4
      go_wp2_with fail
      exact bodyPost_ret (res_105 rfl _ _ w.heap.size rfl HFIN.out) rfl ⟨_, rfl, ⟨_, _, _, _, rfl, HRA.out⟩, HBZ.out⟩
    · obtain ⟨w2, hr, hom, hgm⟩ := run_mkB (w := w1) (n := n) (B := w.heap.size) (by omega) (Nat.le_trans HB.out.size hS.size)
      have hb1 := (Below.refl (w1).heap.size (w1)).grown hgm (Nat.le_refl _) (fun q hq => by cases hq)
      have hSn := hS.below hb1
      refine sh_w (i := 6) rfl rfl (ex_mkS _ _ rfl rfl rfl hr) hSn ?_; try simp only [Zy]
      replace hS := hSn
      clear hSn
      replace HO3 := Lib.hid (own_below HO3.out hb1)
      replace HG1 := Lib.hid (below_look hb1 HG1.out)
      have HO4 := Lib.hid hom
      generalize (w1).heap.size = p4 at HO4 ⊢
      clear hr hom hgm hb1
      obtain ⟨w3, hr, hom, hgm⟩ := run_mkS (w := w2) (n := n) (B := w.heap.size) (by omega) (Nat.le_trans HB.out.size hS.size)
      have hb1 := (Below.refl (w2).heap.size (w2)).grown hgm (Nat.le_refl _) (fun q hq => by cases hq)
      have hSn := hS.below hb1
      refine ha_do (i := 2) (by kernel_rfl) rfl rfl (ex_mkS _ _ rfl rfl rfl hr) hSn ?_; try simp only [Zy]
      replace hS := hSn
      clear hSn
      replace HO3 := Lib.hid (own_below HO3.out hb1)
      replace HO4 := Lib.hid (own_below HO4.out hb1)
      replace HG1 := Lib.hid (below_look hb1 HG1.out)
      have HO2 := Lib.hid hom
      generalize (w2).heap.size = p2 at HO2 ⊢
      clear hr hom hgm hb1
      (refine hv3 (i := 7) rfl (by kernel_rfl) Zg hS rfl (fun w' hw' => ex_build 105 _ rfl (L := [(5, .bool true), (1, .int .i64 seed), (2, .slice (some ⟨p2, 0, none⟩) n n), (3, .slice (some ⟨p3, 0, none⟩) n n), (4, .slice (some ⟨p4, 0, none⟩) n n)]) rfl (built105t _ _ _ _ _ _ _ _ _ _)) ?_; try simp only [Zq])
      have hg := HG1.out
      have hbz := below_setRow (HB.out.trans (hS.toBelow HB.out.size (by simp))) (g := w.heap.size) (Nat.le_refl _) (rcells (.slice none 0 0) seed (.slice (some ⟨p2, 0, none⟩) n n) (.slice (some ⟨p3, 0, none⟩) n n) (.slice (some ⟨p4, 0, none⟩) n n) true)
      have hfin := hr_new (cs := rcells (.slice none 0 0) seed (.slice (some ⟨p2, 0, none⟩) n n) (.slice (some ⟨p3, 0, none⟩) n n) (.slice (some ⟨p4, 0, none⟩) n n) true) hg
      have hoth : ∀ {e : TypeId} {m : Nat} {x : Value} {xs : List Value}, World.ownsRow w3 w.heap.size e 1 x m xs → e ≠ 105 → (World.setRow w3 w.heap.size (rcells (.slice none 0 0) seed (.slice (some ⟨p2, 0, none⟩) n n) (.slice (some ⟨p3, 0, none⟩) n n) (.slice (some ⟨p4, 0, none⟩) n n) true)).ownsRow w.heap.size e 1 x m xs := fun h he => own_same h (fun q hq hx => setRow_other _ _ _ _ (fun e2 => by
        obtain ⟨_, cc, hcc⟩ := own_block h hx
        rw [e2, hg] at hcc; simp only [Option.some.injEq, Obj.cells.injEq] at hcc; exact he hcc.2.1.symm))
      have hRA : RSl (World.setRow w3 w.heap.size (rcells (.slice none 0 0) seed (.slice (some ⟨p2, 0, none⟩) n n) (.slice (some ⟨p3, 0, none⟩) n n) (.slice (some ⟨p4, 0, none⟩) n n) true)) w.heap.size (.slice none 0 0) (.slice (some ⟨p2, 0, none⟩) n n) (.slice (some ⟨p3, 0, none⟩) n n) (.slice (some ⟨p4, 0, none⟩) n n) [] (List.replicate n none) :=
        ⟨own_nil _ _ _ _, by rw [List.length_replicate]; exact hoth HO2.out (by decide), by rw [List.length_replicate]; exact hoth HO3.out (by decide), by rw [List.length_replicate, List.map_replicate]; exact hoth HO4.out (by decide), fun q h => by cases h⟩
      have HRA := Lib.hid hRA
      have HFIN := Lib.hid hfin
      have HBZ := Lib.hid hbz
      refine ha_store (i := 8) (by kernel_rfl) rfl rfl 105 _ _ rfl w.heap.size (rcells (.slice none 0 0) seed (.slice (some ⟨p2, 0, none⟩) n n) (.slice (some ⟨p3, 0, none⟩) n n) (.slice (some ⟨p4, 0, none⟩) n n) true) rfl rfl 105 _ hg info105 rfl (rcells_one _ _ _ _ _ _ _ _ _ _ _ _ _ _) (hS.setRow (by simp) _) (fun hS => ?_); try simp only [Zq]
      refine wpAnyH_done (by kernel_rfl) ?_ _
      clear hS hg hbz hfin hoth hRA HO2 HO3 HO4
      go_wp2_with fail
      exact bodyPost_ret (res_105 rfl _ _ w.heap.size rfl HFIN.out) rfl ⟨_, rfl, ⟨_, _, _, _, rfl, HRA.out⟩, HBZ.out⟩
  · obtain ⟨w1, hr, hom, hgm⟩ := run_mkB (w := W.drew) (n := n) (B := w.heap.size) (by omega) (Nat.le_trans HB.out.size hS.size)
    have hb1 := (Below.refl (W.drew).heap.size (W.drew)).grown hgm (Nat.le_refl _) (fun q hq => by cases hq)
    have hSn := hS.below hb1
    refine sh_w (i := 6) rfl rfl (ex_mkS _ _ rfl rfl rfl hr) hSn ?_; try simp only [Zy]
    replace hS := hSn
    clear hSn
    replace HG1 := Lib.hid (below_look hb1 HG1.out)
    have HO4 := Lib.hid hom
    generalize (W.drew).heap.size = p4 at HO4 ⊢
    clear hr hom hgm hb1
    refine ha_two (i := 2) (j := 4) (by kernel_rfl) ?_ ?_
    · obtain ⟨w2, hr, hom, hgm⟩ := run_mkS (w := w1) (n := n) (B := w.heap.size) (by omega) (Nat.le_trans HB.out.size hS.size)
      have hb1 := (Below.refl (w1).heap.size (w1)).grown hgm (Nat.le_refl _) (fun q hq => by cases hq)
      have hSn := hS.below hb1
      refine sh_w (i := 2) rfl rfl (ex_mkS _ _ rfl rfl rfl hr) hSn ?_; try simp only [Zy]
      replace hS := hSn
      clear hSn
      replace HO4 := Lib.hid (own_below HO4.out hb1)
      replace HG1 := Lib.hid (below_look hb1 HG1.out)
      have HO2 := Lib.hid hom
      generalize (w1).heap.size = p2 at HO2 ⊢
      clear hr hom hgm hb1
      obtain ⟨w3, hr, hom, hgm⟩ := run_mkI (w := w2) (n := n) (B := w.heap.size) (by omega) (Nat.le_trans HB.out.size hS.size)
      have hb1 := (Below.refl (w2).heap.size (w2)).grown hgm (Nat.le_refl _) (fun q hq => by cases hq)
      have hSn := hS.below hb1
      refine ha_do (i := 4) (by kernel_rfl) rfl rfl (ex_mkS _ _ rfl rfl rfl hr) hSn ?_; try simp only [Zy]
      replace hS := hSn
      clear hSn
      replace HO4 := Lib.hid (own_below HO4.out hb1)
      replace HO2 := Lib.hid (own_below HO2.out hb1)
      replace HG1 := Lib.hid (below_look hb1 HG1.out)
      have HO3 := Lib.hid hom
      generalize (w2).heap.size = p3 at HO3 ⊢
      clear hr hom hgm hb1
      (refine hv3 (i := 7) rfl (by kernel_rfl) Zg hS rfl (fun w' hw' => ex_build 105 _ rfl (L := [(5, .bool true), (1, .int .i64 seed), (2, .slice (some ⟨p2, 0, none⟩) n n), (3, .slice (some ⟨p3, 0, none⟩) n n), (4, .slice (some ⟨p4, 0, none⟩) n n)]) rfl (built105t _ _ _ _ _ _ _ _ _ _)) ?_; try simp only [Zq])
      have hg := HG1.out
      have hbz := below_setRow (HB.out.trans (hS.toBelow HB.out.size (by simp))) (g := w.heap.size) (Nat.le_refl _) (rcells (.slice none 0 0) seed (.slice (some ⟨p2, 0, none⟩) n n) (.slice (some ⟨p3, 0, none⟩) n n) (.slice (some ⟨p4, 0, none⟩) n n) true)
      have hfin := hr_new (cs := rcells (.slice none 0 0) seed (.slice (some ⟨p2, 0, none⟩) n n) (.slice (some ⟨p3, 0, none⟩) n n) (.slice (some ⟨p4, 0, none⟩) n n) true) hg
      have hoth : ∀ {e : TypeId} {m : Nat} {x : Value} {xs : List Value}, World.ownsRow w3 w.heap.size e 1 x m xs → e ≠ 105 → (World.setRow w3 w.heap.size (rcells (.slice none 0 0) seed (.slice (some ⟨p2, 0, none⟩) n n) (.slice (some ⟨p3, 0, none⟩) n n) (.slice (some ⟨p4, 0, none⟩) n n) true)).ownsRow w.heap.size e 1 x m xs := fun h he => own_same h (fun q hq hx => setRow_other _ _ _ _ (fun e2 => by
        obtain ⟨_, cc, hcc⟩ := own_block h hx
        rw [e2, hg] at hcc; simp only [Option.some.injEq, Obj.cells.injEq] at hcc; exact he hcc.2.1.symm))
      have hRA : RSl (World.setRow w3 w.heap.size (rcells (.slice none 0 0) seed (.slice (some ⟨p2, 0, none⟩) n n) (.slice (some ⟨p3, 0, none⟩) n n) (.slice (some ⟨p4, 0, none⟩) n n) true)) w.heap.size (.slice none 0 0) (.slice (some ⟨p2, 0, none⟩) n n) (.slice (some ⟨p3, 0, none⟩) n n) (.slice (some ⟨p4, 0, none⟩) n n) [] (List.replicate n none) :=
        ⟨own_nil _ _ _ _, by rw [List.length_replicate]; exact hoth HO2.out (by decide), by rw [List.length_replicate]; exact hoth HO3.out (by decide), by rw [List.length_replicate, List.map_replicate]; exact hoth HO4.out (by decide), fun q h => by cases h⟩
      have HRA := Lib.hid hRA
      have HFIN := Lib.hid hfin
      have HBZ := Lib.hid hbz
      refine ha_store (i := 8) (by kernel_rfl) rfl rfl 105 _ _ rfl w.heap.size (rcells (.slice none 0 0) seed (.slice (some ⟨p2, 0, none⟩) n n) (.slice (some ⟨p3, 0, none⟩) n n) (.slice (some ⟨p4, 0, none⟩) n n) true) rfl rfl 105 _ hg info105 rfl (rcells_one _ _ _ _ _ _ _ _ _ _ _ _ _ _) (hS.setRow (by simp) _) (fun hS => ?_); try simp only [Zq]
      refine wpAnyH_done (by kernel_rfl) ?_ _
      clear hS hg hbz hfin hoth hRA HO2 HO3 HO4
      go_wp2_with fail
      exact bodyPost_ret (res_105 rfl _ _ w.heap.size rfl HFIN.out) rfl ⟨_, rfl, ⟨_, _, _, _, rfl, HRA.out⟩, HBZ.out⟩
    · obtain ⟨w2, hr, hom, hgm⟩ := run_mkI (w := w1) (n := n) (B := w.heap.size) (by omega) (Nat.le_trans HB.out.size hS.size)
      have hb1 := (Below.refl (w1).heap.size (w1)).grown hgm (Nat.le_refl _) (fun q hq => by cases hq)
      have hSn := hS.below hb1
      refine sh_w (i := 4) rfl rfl (ex_mkS _ _ rfl rfl rfl hr) hSn ?_; try simp only [Zy]
      replace hS := hSn
      clear hSn
      replace HO4 := Lib.hid (own_below HO4.out hb1)
      replace HG1 := Lib.hid (below_look hb1 HG1.out)
      have HO3 := Lib.hid hom
      generalize (w1).heap.size = p3 at HO3 ⊢
      clear hr hom hgm hb1
      obtain ⟨w3, hr, hom, hgm⟩ := run_mkS (w := w2) (n := n) (B := w.heap.size) (by omega) (Nat.le_trans HB.out.size hS.size)
      have hb1 := (Below.refl (w2).heap.size (w2)).grown hgm (Nat.le_refl _) (fun q hq => by cases hq)
      have hSn := hS.below hb1
      refine ha_do (i := 2) (by kernel_rfl) rfl rfl (ex_mkS _ _ rfl rfl rfl hr) hSn ?_; try simp only [Zy]
      replace hS := hSn
      clear hSn
      replace HO4 := Lib.hid (own_below HO4.out hb1)
      replace HO3 := Lib.hid (own_below HO3.out hb1)
      replace HG1 := Lib.hid (below_look hb1 HG1.out)
      have HO2 := Lib.hid hom
      generalize (w2).heap.size = p2 at HO2 ⊢
      clear hr hom hgm hb1
      (refine hv3 (i := 7) rfl (by kernel_rfl) Zg hS rfl (fun w' hw' => ex_build 105 _ rfl (L := [(5, .bool true), (1, .int .i64 seed), (2, .slice (some ⟨p2, 0, none⟩) n n), (3, .slice (some ⟨p3, 0, none⟩) n n), (4, .slice (some ⟨p4, 0, none⟩) n n)]) rfl (built105t _ _ _ _ _ _ _ _ _ _)) ?_; try simp only [Zq])
      have hg := HG1.out
      have hbz := below_setRow (HB.out.trans (hS.toBelow HB.out.size (by simp))) (g := w.heap.size) (Nat.le_refl _) (rcells (.slice none 0 0) seed (.slice (some ⟨p2, 0, none⟩) n n) (.slice (some ⟨p3, 0, none⟩) n n) (.slice (some ⟨p4, 0, none⟩) n n) true)
      have hfin := hr_new (cs := rcells (.slice none 0 0) seed (.slice (some ⟨p2, 0, none⟩) n n) (.slice (some ⟨p3, 0, none⟩) n n) (.slice (some ⟨p4, 0, none⟩) n n) true) hg
      have hoth : ∀ {e : TypeId} {m : Nat} {x : Value} {xs : List Value}, World.ownsRow w3 w.heap.size e 1 x m xs → e ≠ 105 → (World.setRow w3 w.heap.size (rcells (.slice none 0 0) seed (.slice (some ⟨p2, 0, none⟩) n n) (.slice (some ⟨p3, 0, none⟩) n n) (.slice (some ⟨p4, 0, none⟩) n n) true)).ownsRow w.heap.size e 1 x m xs := fun h he => own_same h (fun q hq hx => setRow_other _ _ _ _ (fun e2 => by
        obtain ⟨_, cc, hcc⟩ := own_block h hx
        rw [e2, hg] at hcc; simp only [Option.some.injEq, Obj.cells.injEq] at hcc; exact he hcc.2.1.symm))
      have hRA : RSl (World.setRow w3 w.heap.size (rcells (.slice none 0 0) seed (.slice (some ⟨p2, 0, none⟩) n n) (.slice (some ⟨p3, 0, none⟩) n n) (.slice (some ⟨p4, 0, none⟩) n n) true)) w.heap.size (.slice none 0 0) (.slice (some ⟨p2, 0, none⟩) n n) (.slice (some ⟨p3, 0, none⟩) n n) (.slice (some ⟨p4, 0, none⟩) n n) [] (List.replicate n none) :=
        ⟨own_nil _ _ _ _, by rw [List.length_replicate]; exact hoth HO2.out (by decide), by rw [List.length_replicate]; exact hoth HO3.out (by decide), by rw [List.length_replicate, List.map_replicate]; exact hoth HO4.out (by decide), fun q h => by cases h⟩
      have HRA := Lib.hid hRA
      have HFIN := Lib.hid hfin
      have HBZ := Lib.hid hbz
      refine ha_store (i := 8) (by kernel_rfl) rfl rfl 105 _ _ rfl w.heap.size (rcells (.slice none 0 0) seed (.slice (some ⟨p2, 0, none⟩) n n) (.slice (some ⟨p3, 0, none⟩) n n) (.slice (some ⟨p4, 0, none⟩) n n) true) rfl rfl 105 _ hg info105 rfl (rcells_one _ _ _ _ _ _ _ _ _ _ _ _ _ _) (hS.setRow (by simp) _) (fun hS => ?_); try simp only [Zq]
      refine wpAnyH_done (by kernel_rfl) ?_ _
      clear hS hg hbz hfin hoth hRA HO2 HO3 HO4
      go_wp2_with fail
      exact bodyPost_ret (res_105 rfl _ _ w.heap.size rfl HFIN.out) rfl ⟨_, rfl, ⟨_, _, _, _, rfl, HRA.out⟩, HBZ.out⟩
theorem own_other {w : World} {B B' e e' m n c p : Nat} {x : Value} {xs ys : List Value} (h : w.ownsRow B e 1 x m xs) (h' : w.ownsRow B' e' 1 (.slice (some ⟨p, 0, none⟩) n c) n ys) (he : e ≠ e') (i : Nat) (v : Value) :
    (w.setCell ⟨p, i, none⟩ v).ownsRow B e 1 x m xs := own_same h (fun q hq hx => heap_setCell_other _ _ _ _ (fun e2 => by
  obtain ⟨_, cc, hcc⟩ := own_block h hx
  obtain ⟨_, cd, hcd⟩ := own_block h' (q := p) rfl
  rw [show q = p from e2, hcd] at hcc
  simp only [Option.some.injEq, Obj.cells.injEq] at hcc
  exact he hcc.2.1.symm))
theorem own_away {w : World} {B e m p : Nat} {x : Value} {xs : List Value} (h : w.ownsRow B e 1 x m xs) (hne : x.ownBlock ≠ some p) (i : Nat) (v : Value) : (w.setCell ⟨p, i, none⟩ v).ownsRow B e 1 x m xs :=
  own_same h (fun q _ hx => heap_setCell_other _ _ _ _ (fun e2 => hne (by rw [← (show q = p from e2)]; exact hx)))
theorem set_k (t : Tab) (i : Nat) (o : Option (ByteArray × Int)) : (strs (t.map ek)).set i (.string (ek o)) = strs ((t.set i o).map ek) := by unfold strs; rw [List.map_set, List.map_set]
theorem set_v (t : Tab) (i : Nat) (o : Option (ByteArray × Int)) : (ints (t.map ev)).set i (.int .i64 (ev o)) = ints ((t.set i o).map ev) := by unfold ints; rw [List.map_set, List.map_set]
theorem set_u (t : Tab) (i : Nat) (o : Option (ByteArray × Int)) : (bools (t.map eb)).set i (.bool (eb o)) = bools ((t.set i o).map eb) := by unfold bools; rw [List.map_set, List.map_set]
/-- the three stores of an entry -/
theorem RSl.set {w : World} {B n c2 c3 c4 p2 p3 p4 : Nat} {lv : Value} {l : List ByteArray} {t : Tab} (hn : n = t.length) (h : RSl w B lv (.slice (some ⟨p2, 0, none⟩) n c2) (.slice (some ⟨p3, 0, none⟩) n c3) (.slice (some ⟨p4, 0, none⟩) n c4) l t) (i : Nat) (o : Option (ByteArray × Int)) :
    RSl (((w.setCell ⟨p2, i, none⟩ (.string (ek o))).setCell ⟨p3, i, none⟩ (.int .i64 (ev o))).setCell ⟨p4, i, none⟩ (.bool (eb o))) B lv (.slice (some ⟨p2, 0, none⟩) n c2) (.slice (some ⟨p3, 0, none⟩) n c3) (.slice (some ⟨p4, 0, none⟩) n c4) l (t.set i o) := by
  subst hn
  obtain ⟨hl, hk, hv, hu, hne⟩ := h
  have k1 := own_setG hk i (.string (ek o))
  have l1 := own_away hl (p := p2) (fun e => hne p2 e rfl) i (.string (ek o))
  have v1 := own_other hv hk (by decide) i (.string (ek o))
  have u1 := own_other hu hk (by decide) i (.string (ek o))
  have k2 := own_other k1 v1 (by decide) i (.int .i64 (ev o))
  have l2 := own_other l1 v1 (by decide) i (.int .i64 (ev o))
  have v2 := own_setG v1 i (.int .i64 (ev o))
  have u2 := own_other u1 v1 (by decide) i (.int .i64 (ev o))
  have k3 := own_other k2 u2 (by decide) i (.bool (eb o))
  have l3 := own_other l2 u2 (by decide) i (.bool (eb o))
  have v3 := own_other v2 u2 (by decide) i (.bool (eb o))
  have u3 := own_setG u2 i (.bool (eb o))
  rw [set_k] at k3
  rw [set_v] at v3
  rw [set_u] at u3
  refine ⟨l3, ?_, ?_, ?_, hne⟩
  · rw [List.length_set]; exact k3
  · rw [List.length_set]; exact v3
  · rw [List.length_set]; exact u3
theorem HashI_b (m : ByteArray) (hm : m.size ≤ 1000000000) (seed : Int) (w : World) :
    Calls Try.prog 36 #[.string m, .int .i64 seed] w fun e w' => e = .returned (.int .i64 ((HH seed m : Nat) : Int)) ∧ Below w.heap.size w w' :=
  (HashI_any m hm seed w).mono fun _ _ ⟨h1, h2⟩ => ⟨h1, h2 ▸ Below.refl _ _⟩
theorem own_p {w : World} {B e n : Nat} {v : Value} {xs : List Value} (h : w.ownsRow B e 1 v n xs) (hn : 1 ≤ n) : ∃ p c, v = .slice (some ⟨p, 0, none⟩) n c ∧ B ≤ p := by
  rcases h.2 with ⟨_, h0⟩ | ⟨p, cap, cur, hv, hB, _⟩
  · omega
  · exact ⟨p, cap, hv, hB⟩
theorem own_th {w : World} {B e n c p : Nat} {xs : List Value} (h : w.ownsRow B e 1 (.slice (some ⟨p, 0, none⟩) n c) n xs) {j : Nat} (hj : j < n) : (w.cell? ⟨p, j, none⟩).isSome = true := by
  have hl := h.1
  rw [h.cellAt j (by omega), List.getElem?_eq_getElem (by omega)]; rfl
theorem RSl.tab {w : World} {B : Nat} {lv kv vv uv : Value} {l : List ByteArray} {t : Tab} (h : RSl w B lv kv vv uv l t) (hn : 1 ≤ t.length) : ∃ p2 c2 p3 c3 p4 c4, kv = .slice (some ⟨p2, 0, none⟩) t.length c2 ∧ vv = .slice (some ⟨p3, 0, none⟩) t.length c3 ∧ uv = .slice (some ⟨p4, 0, none⟩) t.length c4 ∧ B ≤ p2 ∧ B ≤ p3 ∧ B ≤ p4 := by
  obtain ⟨p2, c2, e2, b2⟩ := own_p h.k hn
  obtain ⟨p3, c3, e3, b3⟩ := own_p h.v hn
  obtain ⟨p4, c4, e4, b4⟩ := own_p h.u hn
  exact ⟨p2, c2, p3, c3, p4, c4, e2, e3, e4, b2, b3, b4⟩
/-- the blocks of a dictionary's columns -/
def RFoot (v : Value) (q : Nat) : Prop := ∃ lv seed kv vv uv d, v = .agg (rcells lv seed kv vv uv d) ∧ (kv.ownBlock = some q ∨ vv.ownBlock = some q ∨ uv.ownBlock = some q)
/-- only a dictionary's columns change -/
structure RKept (v : Value) (w w' : World) : Prop where
  size : w.heap.size ≤ w'.heap.size
  block : ∀ q, q < w.heap.size → ¬ RFoot v q → w'.heap[q]? = w.heap[q]?
  os : w'.os = w.os
  tape : w'.tape = w.tape
  output : w'.output = w.output
theorem RAt.foot {w : World} {B : Nat} {v : Value} {b : Buf} (h : RAt w B v b) {q : Nat} (hq : RFoot v q) : B ≤ q ∧ ∃ cs t, w.heap[q]? = some (.cells cs t (0, 0)) ∧ (t = 9 ∨ t = 3 ∨ t = 4) := by
  obtain ⟨lv, kv, vv, uv, rfl, hr⟩ := h
  obtain ⟨lv', seed', kv', vv', uv', d', e, hq⟩ := hq
  simp only [rcells, Value.agg.injEq, Array.mk.injEq, List.cons.injEq, and_true] at e
  obtain ⟨-, -, rfl, rfl, rfl, -⟩ := e
  rcases hq with hq | hq | hq
  · obtain ⟨b1, cs, hc⟩ := own_block hr.k hq; exact ⟨b1, cs, 9, hc, by simp⟩
  · obtain ⟨b1, cs, hc⟩ := own_block hr.v hq; exact ⟨b1, cs, 3, hc, by simp⟩
  · obtain ⟨b1, cs, hc⟩ := own_block hr.u hq; exact ⟨b1, cs, 4, hc, by simp⟩
theorem RKept.toBelow {w w' : World} {B : Nat} {v : Value} {b : Buf} (hk : RKept v w w') (h : RAt w B v b) (hB : B ≤ w.heap.size) : Below B w w' :=
  ⟨hk.os, hk.tape, hk.output, hk.size, fun q hq => hk.block q (by omega) (fun hf => by have := (h.foot hf).1; omega)⟩
theorem RKept.look {w w' : World} {B q : Nat} {v : Value} {b : Buf} {cs : Array Value} (hk : RKept v w w') (h : RAt w B v b) (hq : w.heap[q]? = some (.cells cs 105 (0, 0))) : w'.heap[q]? = some (.cells cs 105 (0, 0)) :=
  (hk.block q (heap_lt hq) (fun hf => by
    obtain ⟨_, c, t, hc, ht⟩ := h.foot hf
    rw [hc] at hq
    simp only [Option.some.injEq, Obj.cells.injEq] at hq
    rcases ht with rfl | rfl | rfl <;> exact absurd hq.2.1 (by decide))).trans hq
theorem RKept.refl (v : Value) (w : World) : RKept v w w := ⟨Nat.le_refl _, fun _ _ _ => rfl, rfl, rfl, rfl⟩
theorem RKept.trans {v : Value} {w w1 w2 : World} (h : RKept v w w1) (h2 : RKept v w1 w2) : RKept v w w2 :=
  ⟨Nat.le_trans h.size h2.size, fun q hq hn => by rw [h2.block q (Nat.lt_of_lt_of_le hq h.size) hn]; exact h.block q hq hn, h2.os.trans h.os, h2.tape.trans h.tape, h2.output.trans h.output⟩
theorem RKept.of {v : Value} {w w' : World} (h : Below w.heap.size w w') : RKept v w w' := ⟨h.size, fun q hq _ => h.block q hq, h.os, h.tape, h.output⟩
/-- variables that hold buffers keep their contents -/
def Keep105 (w w' : World) : Prop := ∀ (q : Nat) (cs : Array Value), w.heap[q]? = some (.cells cs 105 (0, 0)) → w'.heap[q]? = some (.cells cs 105 (0, 0))
theorem RAt.row105 {w : World} {B q : Nat} {v : Value} {b : Buf} {old : Array Value} (h : RAt w B v b) (hq : w.heap[q]? = some (.cells old 105 (0, 0))) (cs : Array Value) : RAt (w.setRow q cs) B v b := by
  have hoth : ∀ {e : TypeId} {m : Nat} {x : Value} {xs : List Value}, w.ownsRow B e 1 x m xs → e ≠ 105 → (w.setRow q cs).ownsRow B e 1 x m xs := fun h he => own_same h (fun r hr hx => setRow_other _ _ _ _ (fun e2 => by
    obtain ⟨_, cc, hcc⟩ := own_block h hx
    rw [e2, hq] at hcc; simp only [Option.some.injEq, Obj.cells.injEq] at hcc; exact he hcc.2.1.symm))
  obtain ⟨lv, kv, vv, uv, rfl, hr⟩ := h
  exact ⟨lv, kv, vv, uv, rfl, hoth hr.l (by decide), hoth hr.k (by decide), hoth hr.v (by decide), hoth hr.u (by decide), hr.ne⟩
theorem RSl.one {w : World} {B : Nat} {lv kv vv uv : Value} {l : List ByteArray} {t : Tab} (h : RSl w B lv kv vv uv l t) (seed : Int) (d : Bool) : (rcells lv seed kv vv uv d).all (·.oneCell') = true := by
  obtain ⟨A1, c1, rfl, -⟩ := own_col h.l
  obtain ⟨A2, c2, rfl, -⟩ := own_col h.k
  obtain ⟨A3, c3, rfl, -⟩ := own_col h.v
  obtain ⟨A4, c4, rfl, -⟩ := own_col h.u
  exact rcells_one _ _ _ _ _ _ _ _ _ _ _ _ _ _
/-- the blocks of a dictionary's columns, as a list -/
def footR (kv vv uv : Value) : List Nat := kv.ownBlock.toList ++ (vv.ownBlock.toList ++ uv.ownBlock.toList)
theorem mem_footR {lv kv vv uv : Value} {seed : Int} {d : Bool} {q : Nat} : q ∈ footR kv vv uv ↔ RFoot (.agg (rcells lv seed kv vv uv d)) q := by
  unfold footR
  simp only [List.mem_append, Option.mem_toList]
  constructor
  · intro h; exact ⟨_, _, _, _, _, _, rfl, h⟩
  · rintro ⟨lv', seed', kv', vv', uv', d', e, h⟩
    simp only [rcells, Value.agg.injEq, Array.mk.injEq, List.cons.injEq, and_true] at e
    obtain ⟨-, -, rfl, rfl, rfl, -⟩ := e
    exact h
theorem Nm.Kept.rk {D : List Nat} {v : Value} {W w w' : World} (h : Kept D W w) (hr : RKept v w w') (hd : ∀ q, RFoot v q → q ∈ D ∨ W.heap.size ≤ q) : Kept D W w' :=
  ⟨Nat.le_trans h.size hr.size, fun k hk hn => by
    rw [hr.block k (Nat.lt_of_lt_of_le hk h.size) (fun hf => (hd k hf).elim hn (fun e => by omega))]; exact h.block k hk hn, hr.os.trans h.os, hr.tape.trans h.tape, hr.output.trans h.output⟩
set_option maxHeartbeats 4000000 in
set_option maxRecDepth 100000 in
theorem layI_any (v : Value) (b : Buf) (B : Nat) (key : ByteArray) (val : Int) (hks : key.size ≤ 1000000000) (hn1 : 1 ≤ b.t.length) (hn : b.t.length ≤ 100000) (hg : ∃ i, i < b.t.length ∧ occ b.t i = false) (w : World) (h : RAt w B v b) :
    Calls Try.prog 92 #[v, .string key, .int .i64 val] w fun e w' => e = .returned v ∧ RAt w' B v { b with t := layT (HH b.seed) b.t key val } ∧ RKept v w w' := by
  obtain ⟨lv, kv, vv, uv, rfl, hr⟩ := h
  obtain ⟨A1, c1, rfl, -⟩ := own_col hr.l
  obtain ⟨p2, c2, p3, c3, p4, c4, rfl, rfl, rfl, hb2, hb3, hb4⟩ := hr.tab hn1
  have HR := Lib.hid hr
  have HG := Lib.hid hg
  obtain ⟨kd, l, seed, t⟩ := b
  simp only at HR HG hn hn1 hb2 hb3 hb4 ⊢
  obtain ⟨dd, hdd⟩ : ∃ dd, dd = isD ⟨kd, l, seed, t⟩ := ⟨_, rfl⟩
  have HDD : Hid (dd = isD ⟨kd, l, seed, layT (HH seed) t key val⟩) := Lib.hid hdd
  rw [← hdd]
  obtain ⟨n, hnn⟩ : ∃ n, n = t.length := ⟨_, rfl⟩
  have HN := Lib.hid hnn
  rw [← hnn] at hn hn1 HR ⊢
  obtain ⟨nl, hnl⟩ : ∃ n, n = l.length := ⟨_, rfl⟩
  rw [← hnl] at HR ⊢
  clear hr hg hdd hnn hnl
  go_enter Try.func92, Try.ntmps92
  go_upto_region 1 with (fail)
  have hb0 := (Below.refl w.heap.size w).alloc (Nat.le_refl _) (.cells (rcells (.slice A1 nl c1) seed (.slice (some ⟨p2, 0, none⟩) n c2) (.slice (some ⟨p3, 0, none⟩) n c3) (.slice (some ⟨p4, 0, none⟩) n c4) dd) 105)
  have hb1 := hb0.alloc (by simp) (.cells noR 105)
  refine wp_world (fun W => Below w.heap.size w W ∧ W.heap[w.heap.size]? = some (.cells (rcells (.slice A1 nl c1) seed (.slice (some ⟨p2, 0, none⟩) n c2) (.slice (some ⟨p3, 0, none⟩) n c3) (.slice (some ⟨p4, 0, none⟩) n c4) dd) 105 (0, 0)) ∧ W.heap[w.heap.size + 1]? = some (.cells noR 105 (0, 0))) ⟨hb1, ha_old (ha_new rfl), ha_new (by simp)⟩ ?_
  clear hb0 hb1
  rintro W ⟨hb, g1, g2⟩
  obtain ⟨x0, x1, x2, x3, x4, x5⟩ := rc_cell g1
  have L2 := (HR.out.k.lt p2 rfl).2
  have L3 := (HR.out.v.lt p3 rfl).2
  have L4 := (HR.out.u.lt p4 rfl).2
  have LW := heap_lt g2
  replace HR := Lib.hid (HR.out.below hb)
  have HG1 := Lib.hid g1
  have HG2 := Lib.hid g2
  have HB := Lib.hid hb
  clear hb g1 g2
  refine wp_region_held_drew (S := Kept [] W) mixed (Kept.drew [] W) (fun hS => ?_)
  refine hk3 (i := 0) rfl (by kernel_rfl) Zh hS rfl (fun K hK => ?_); go_simp; refine hK _ ?_; clear hK K; try simp only [Zq]
  refine hk3 (i := 1) rfl (by kernel_rfl) Zh hS rfl (fun K hK => ?_); go_simp; refine hK _ ?_; clear hK K; try simp only [Zq]
  refine hv3 (i := 2) rfl (by kernel_rfl) Zg hS rfl (fun w' hw' => ex_one rfl (one3 (hw'.cell x1 (by simp <;> omega)))) ?_; try simp only [Zq]
  refine hk3 (i := 4) rfl (by kernel_rfl) Zh hS rfl (fun K hK => ?_); go_simp; refine hK _ ?_; clear hK K; try simp only [Zq]
  refine hv3 (i := 5) rfl (by kernel_rfl) Zg hS rfl (fun w' hw' => ex_one rfl (one29 (hw'.cell x2 (by simp <;> omega)))) ?_; try simp only [Zq]
  refine hk3 (i := 6) rfl (by kernel_rfl) Zh hS rfl (fun K hK => ?_); go_simp; refine hK _ ?_; clear hK K; try simp only [Zq]
  have hmod := Lib.hid (tmod_nat (HH seed key) n)
  have hne : ¬ n = 0 := by omega
  refine ha_call (i := 3) (by kernel_rfl) rfl rfl (fun K hK => ?_); go_simp; refine ⟨_, _, ⟨rfl, rfl⟩, hK _ _ ⟨_, HashI_b key hks seed _, ?_⟩⟩; clear hK K; rintro e w1 ⟨rfl, hb1⟩; refine ⟨_, rfl, hS.below hb1, ?_⟩; replace hS := hS.below hb1; (clear hb1); try simp only [Zq]
  refine hk3 (i := 7) rfl (by kernel_rfl) Zh hS rfl (fun K hK => ?_); go_simp; refine hK _ ?_; clear hK K; try simp only [Zq]
  refine hk3 (i := 8) rfl (by kernel_rfl) Zh hS rfl (fun K hK => ?_); go_simp; refine hK _ ?_; clear hK K; try simp only [Zq]
  refine wpAnyH_done (by kernel_rfl) ?_ _
  rw [hmod.out]
  have hj0 : HH seed key % n < n := Nat.mod_lt _ (by omega)
  have HT : Hid ((HH seed key % n + far t free (HH seed key % n) n) % n = slot (HH seed) t key) := Lib.hid (by rw [HN.out, far_mod, Nat.mod_add_mod]; rfl)
  generalize HH seed key % n = j0 at hj0 HT
  have HW := Lib.hid (hS.toBelow (Nat.le_refl _) (by simp))
  clear hmod hS x0 x1 x2 x3 x4 x5
  go_wp2_with fail
  go_loopw [7] (fun v wr => wr = w1 ∧ ∃ j : Nat, j < n ∧ v = .int .i64 (j : Int) ∧ Hid ((j + far t free j n) % n = slot (HH seed) t key)) (fun v _ => far t free (intOf v).toNat n)
  case atStart => exact ⟨rfl, j0, hj0, rfl, HT⟩
  case round =>
    clear HT hj0
    obtain ⟨rfl, j, hj, rfl, HT⟩ := hrel
    obtain ⟨y0, y1, y2, y3, y4, y5⟩ := rc_cell (below_look HW.out HG1.out)
    have hjt : j < t.length := by rw [← HN.out]; exact hj
    have hgap : ∃ d, d < t.length ∧ free (pl t (j + d)) = true := by
      obtain ⟨x, hx, hxo⟩ := HG.out
      obtain ⟨d, hd, hdx⟩ := off_of j hx
      refine ⟨d, hd, ?_⟩
      rw [← pl_mod, hdx, free_iff]; unfold occ at hxo; simpa using hxo
    have HR1 := Lib.hid (HR.out.below HW.out)
    have cu : wr.cell? ⟨p4, j, none⟩ = some (.bool (eb (pl t j))) := by
      have hu0 : wr.ownsRow B 4 1 (.slice (some ⟨p4, 0, none⟩) n c4) n (bools (t.map eb)) := by have := HR1.out.u; rwa [← HN.out] at this
      rw [hu0.cellAt j (by omega)]
      unfold bools
      rw [List.getElem?_map, List.getElem?_map, pl_get hjt]; rfl
    have hjI : (j : Int) < (n : Int) := by omega
    cases hu : eb (pl t j) with
    | false =>
      rw [hu] at cu
      have hfj : free (pl t j) = true := by rw [free_iff]; unfold eb at hu; simpa using hu
      have h0f : far t free j n = 0 := by rw [HN.out]; exact Nat.le_zero.1 (far_at (t := t) (p := free) (i := j) (f := t.length) (d := 0) (by omega) (by simpa using hfj)).1
      have hsl : j = slot (HH seed) t key := by
        have := HT.out
        rwa [h0f, Nat.add_zero, Nat.mod_eq_of_lt hj] at this
      have HSL := Lib.hid hsl
      clear h0f hfj hu hgap hsl HT
      have hrd := HR1.out.below (Below.refl _ wr).drew
      have hset := RSl.set HN.out hrd j (some (key, val))
      have hk0 : wr.drew.ownsRow B 9 1 (.slice (some ⟨p2, 0, none⟩) n c2) n (strs (t.map ek)) := by have := hrd.k; rwa [← HN.out] at this
      have hv0 : wr.drew.ownsRow B 3 1 (.slice (some ⟨p3, 0, none⟩) n c3) n (ints (t.map ev)) := by have := hrd.v; rwa [← HN.out] at this
      have hu0 : wr.drew.ownsRow B 4 1 (.slice (some ⟨p4, 0, none⟩) n c4) n (bools (t.map eb)) := by have := hrd.u; rwa [← HN.out] at this
      have hv1 := own_other hv0 hk0 (by decide) j (.string key)
      have hu1 := own_other hu0 hk0 (by decide) j (.string key)
      have hu2 := own_other hu1 hv1 (by decide) j (.int .i64 val)
      have t2 := own_th hk0 hj
      have f2 := hk0.frozenAt j
      have t3 := own_th hv1 hj
      have f3 := hv1.frozenAt j
      have t4 := own_th hu2 hj
      have f4 := hu2.frozenAt j
      have HSET := Lib.hid hset
      clear hrd hset hk0 hv0 hu0 hv1 hu1 hu2 y0 y1 y5 hjt
      go_upto_region 4 with (fail)
      refine wp_region_held_drew (S := Kept [p2, p3, p4] wr) mixed (Kept.drew [p2, p3, p4] wr) (fun hS => ?_)
      have ng : w.heap.size ∉ [p2, p3, p4] := by simp; omega
      refine hk3 (i := 0) rfl (by kernel_rfl) Zh hS rfl (fun K hK => ?_); go_simp; refine hK _ ?_; clear hK K; try simp only [Zq]
      (refine hv3 (i := 1) rfl (by kernel_rfl) Zg hS rfl (fun w' hw' => ex_one rfl (one29 (hw'.cell y2 ng))) ?_; try simp only [Zq])
      refine hk3 (i := 2) rfl (by kernel_rfl) Zh hS rfl (fun K hK => ?_); go_simp; refine hK _ ?_; clear hK K; try simp only [Zq]
      refine hk3 (i := 3) rfl (by kernel_rfl) Zh hS rfl (fun K hK => ?_); go_simp; refine hK _ ?_; clear hK K; try simp only [Zq]
      (refine hv3 (i := 4) rfl (by kernel_rfl) Zg hS rfl (fun w' hw' => ex_one rfl (one63 (hw'.cell y3 ng))) ?_; try simp only [Zq])
      refine hk3 (i := 5) rfl (by kernel_rfl) Zh hS rfl (fun K hK => ?_); go_simp; refine hK _ ?_; clear hK K; try simp only [Zq]
      refine hk3 (i := 6) rfl (by kernel_rfl) Zh hS rfl (fun K hK => ?_); go_simp; refine hK _ ?_; clear hK K; try simp only [Zq]
      (refine hv3 (i := 7) rfl (by kernel_rfl) Zg hS rfl (fun w' hw' => ex_one rfl (one103 (hw'.cell y4 ng))) ?_; try simp only [Zq])
      refine hk3 (i := 8) rfl (by kernel_rfl) Zh hS rfl (fun K hK => ?_); go_simp; refine hK _ ?_; clear hK K; try simp only [Zq]
      refine hk3 (i := 9) rfl (by kernel_rfl) Zh hS rfl (fun K hK => ?_); go_simp; refine hK _ ?_; clear hK K; try simp only [Zq]
      refine hk3 (i := 10) rfl (by kernel_rfl) Zh hS rfl (fun K hK => ?_); go_simp; refine hK _ ?_; clear hK K; try simp only [Zq]
      refine hk3 (i := 11) rfl (by kernel_rfl) Zh hS rfl (fun K hK => ?_); go_simp; refine hK _ ?_; clear hK K; try simp only [Zq]
      refine ha_storeC (i := 12) (by kernel_rfl) rfl rfl 9 _ _ rfl p2 j (.string key) rfl rfl (by kernel_rfl) rfl t2 f2 (hS.setCell (by simp) j _) (fun hS => ?_); try simp only [Zq]
      refine hk3 (i := 13) rfl (by kernel_rfl) Zh hS rfl (fun K hK => ?_); go_simp; refine hK _ ?_; clear hK K; try simp only [Zq]
      refine ha_storeC (i := 14) (by kernel_rfl) rfl rfl 3 _ _ rfl p3 j (.int .i64 val) rfl rfl (by kernel_rfl) rfl t3 f3 (hS.setCell (by simp) j _) (fun hS => ?_); try simp only [Zq]
      refine hk3 (i := 15) rfl (by kernel_rfl) Zh hS rfl (fun K hK => ?_); go_simp; refine hK _ ?_; clear hK K; try simp only [Zq]
      refine ha_storeC (i := 16) (by kernel_rfl) rfl rfl 4 _ _ rfl p4 j (.bool true) rfl rfl (by kernel_rfl) rfl t4 f4 (hS.setCell (by simp) j _) (fun hS => ?_); try simp only [Zq]
      refine wpAnyH_done (by kernel_rfl) ?_ _
      have HK2 := Lib.hid hS
      clear hS t2 f2 t3 f3 t4 f4 y2 y3 y4 HR1 cu
      obtain ⟨w2, hw2⟩ : ∃ w2, w2 = ((wr.drew.setCell ⟨p2, j, none⟩ (.string key)).setCell ⟨p3, j, none⟩ (.int .i64 val)).setCell ⟨p4, j, none⟩ (.bool true) := ⟨_, rfl⟩
      have HSET2 : Hid (RSl w2 B (.slice A1 nl c1) (.slice (some ⟨p2, 0, none⟩) n c2) (.slice (some ⟨p3, 0, none⟩) n c3) (.slice (some ⟨p4, 0, none⟩) n c4) l (t.set j (some (key, val)))) := Lib.hid (by rw [hw2]; exact HSET.out)
      rw [← hw2] at HK2 ⊢
      clear hw2 HSET
      have g1' : Hid (w2.heap[w.heap.size]? = _) := Lib.hid ((HK2.out.block _ (by have := HW.out.size; omega) ng).trans (below_look HW.out HG1.out))
      have g2' : Hid (w2.heap[w.heap.size + 1]? = _) := Lib.hid ((HK2.out.block _ (by have := HW.out.size; omega) (by simp; omega)).trans (below_look HW.out HG2.out))
      have hbw := HB.out.trans (HW.out.mono HB.out.size)
      have HRK : Hid (RKept (.agg (rcells (.slice A1 nl c1) seed (.slice (some ⟨p2, 0, none⟩) n c2) (.slice (some ⟨p3, 0, none⟩) n c3) (.slice (some ⟨p4, 0, none⟩) n c4) dd)) w (w2.setRow (w.heap.size + 1) (rcells (.slice A1 nl c1) seed (.slice (some ⟨p2, 0, none⟩) n c2) (.slice (some ⟨p3, 0, none⟩) n c3) (.slice (some ⟨p4, 0, none⟩) n c4) dd))) := Lib.hid (by
        have hk := (((Nm.Kept.refl [p2, p3, p4] w).below hbw).trans HK2.out).setNew (p := w.heap.size + 1) (by omega) (rcells (.slice A1 nl c1) seed (.slice (some ⟨p2, 0, none⟩) n c2) (.slice (some ⟨p3, 0, none⟩) n c3) (.slice (some ⟨p4, 0, none⟩) n c4) dd)
        refine ⟨hk.size, fun q hq hn => hk.block q hq (fun hm => hn ⟨_, _, _, _, _, _, rfl, ?_⟩), hk.os, hk.tape, hk.output⟩
        simp at hm
        rcases hm with rfl | rfl | rfl
        · exact Or.inl rfl
        · exact Or.inr (Or.inl rfl)
        · exact Or.inr (Or.inr rfl))
      clear HK2 HW HB HR hbw
      go_upto_region 5 with (fail)
      apply wp_region_lit
      ((with_reducible apply wl_rowG); exact rfl; exact rfl; exact rowR g1'.out)
      try simp only [Zq]
      refine wl_putG (w.heap.size + 1) (rcells (.slice A1 nl c1) seed (.slice (some ⟨p2, 0, none⟩) n c2) (.slice (some ⟨p3, 0, none⟩) n c3) (.slice (some ⟨p4, 0, none⟩) n c4) dd) rfl rfl 105 _ g2'.out info105 rfl (rcells_one _ _ _ _ _ _ _ _ _ _ _ _ _ _) ?_
      rw [put_noneA]
      have hfin := hr_new (cs := rcells (.slice A1 nl c1) seed (.slice (some ⟨p2, 0, none⟩) n c2) (.slice (some ⟨p3, 0, none⟩) n c3) (.slice (some ⟨p4, 0, none⟩) n c4) dd) g2'.out
      have hoth : ∀ {e : TypeId} {m : Nat} {x : Value} {xs : List Value}, w2.ownsRow B e 1 x m xs → e ≠ 105 → (w2.setRow (w.heap.size + 1) (rcells (.slice A1 nl c1) seed (.slice (some ⟨p2, 0, none⟩) n c2) (.slice (some ⟨p3, 0, none⟩) n c3) (.slice (some ⟨p4, 0, none⟩) n c4) dd)).ownsRow B e 1 x m xs := fun h he => own_same h (fun q hq hx => setRow_other _ _ _ _ (fun e2 => by
        obtain ⟨_, cc, hcc⟩ := own_block h hx
        rw [e2, g2'.out] at hcc; simp only [Option.some.injEq, Obj.cells.injEq] at hcc; exact he hcc.2.1.symm))
      have HRA : Hid (RSl (w2.setRow (w.heap.size + 1) (rcells (.slice A1 nl c1) seed (.slice (some ⟨p2, 0, none⟩) n c2) (.slice (some ⟨p3, 0, none⟩) n c3) (.slice (some ⟨p4, 0, none⟩) n c4) dd)) B (.slice A1 nl c1) (.slice (some ⟨p2, 0, none⟩) n c2) (.slice (some ⟨p3, 0, none⟩) n c3) (.slice (some ⟨p4, 0, none⟩) n c4) l (layT (HH seed) t key val)) := Lib.hid (by
        have h9 := HSET2.out
        rw [HSL.out] at h9
        exact ⟨hoth h9.l (by decide), hoth h9.k (by decide), hoth h9.v (by decide), hoth h9.u (by decide), h9.ne⟩)
      have HFIN := Lib.hid hfin
      clear hfin hoth g1' g2' HSET2
      go_wp2_with fail
      exact bodyPost_ret (res_105 rfl _ _ (w.heap.size + 1) rfl HFIN.out) rfl ⟨rfl, ⟨_, _, _, _, by rw [HDD.out], HRA.out⟩, HRK.out⟩
    | true =>
      rw [hu] at cu
      have hmod : ((j : Int) + 1) % (n : Int) = (((j + 1) % n : Nat) : Int) := by rw [← emod_nat]; simp
      have HMD := Lib.hid hmod
      have hfj : free (pl t j) = false := by rw [free_not]; exact hu
      have HNX : Hid (far t free j n = far t free (j + 1) n + 1) := Lib.hid (by rw [HN.out]; exact far_next hfj hgap)
      clear hmod hfj hu hgap hjt
      go_wp2_with fail
      go_roundw
      case rel => exact ⟨by trivial, (j + 1) % n, Nat.mod_lt _ (by omega), by rw [HMD.out], Lib.hid (by rw [HN.out, far_mod, Nat.mod_add_mod, ← HN.out, ← HT.out, HNX.out]; congr 1; omega)⟩
      case measure =>
        show far t free (intOf (.int .i64 (((j : Int) + 1) % _))).toNat _ < far t free (intOf (.int .i64 (j : Int))).toNat _
        rw [HMD.out]
        simp only [intOf, Int.toNat_natCast]
        rw [HN.out, far_mod, ← HN.out, HNX.out]; omega
theorem ents_take {t : Tab} {j : Nat} (hj : j < t.length) : ents (t.take (j + 1)) = ents (t.take j) ++ (match pl t j with | none => [] | some x => [x]) := pairsT_take hj
theorem grow_step {seed : Int} {t : Tab} {T0 : Tab} {j : Nat} (hj : j < t.length) : layAll (HH seed) T0 (ents (t.take (j + 1))) = if eb (pl t j) then layT (HH seed) (layAll (HH seed) T0 (ents (t.take j))) (ek (pl t j)) (ev (pl t j)) else layAll (HH seed) T0 (ents (t.take j)) := by
  rw [ents_take hj]
  cases pl t j with
  | none => simp [eb]
  | some x => simp only [eb, Option.isSome_some, if_true]; rw [layAll_snoc]; rfl
theorem grow_gap {seed : Int} {t : Tab} (n : Nat) (hn : n = t.length) (h1 : 1 ≤ n) (j : Nat) : ∃ i, i < (layAll (HH seed) (List.replicate (2 * n) none) (ents (t.take j))).length ∧ occ (layAll (HH seed) (List.replicate (2 * n) none) (ents (t.take j))) i = false := by
  have hl : (ents (t.take j)).length ≤ n := by rw [ents_length]; have := cn_le (t.take j); rw [List.length_take] at this; omega
  apply cn_gap
  rw [layAll_cn, cn_none, layAll_length, List.length_replicate]
  · omega
  · rw [cn_none, List.length_replicate]; omega
set_option maxHeartbeats 4000000 in
set_option maxRecDepth 100000 in
theorem putI_any (v : Value) (b : Buf) (B : Nat) (key : ByteArray) (val : Int) (hkd : b.kd = 2) (hl0 : b.l = []) (hks : key.size ≤ 1000000000) (hn1 : 1 ≤ b.t.length) (hn : b.t.length ≤ 10000) (hwf : Wf (HH b.seed) b.t) (hsh : Short b.t) (w : World) (hBw : B ≤ w.heap.size) (h : RAt w B v b) :
    Calls Try.prog 88 #[v, .string key, .int .i64 val] w fun e w' => ∃ v', e = .returned v' ∧ RAt w' B v' { b with t := addT (HH b.seed) b.t key val } ∧ Below B w w' ∧ Keep105 w w' := by
  obtain ⟨A1, c1, A2, c2, A3, c3, A4, c4, rfl, hr, -, d2, d3, d4⟩ := h.cols
  have HRA := Lib.hid h
  have HR := Lib.hid hr
  have HG := Lib.hid hwf.gap
  have HWF := Lib.hid hwf
  have HSH := Lib.hid hsh
  have D2 := Lib.hid d2
  have D3 := Lib.hid d3
  have D4 := Lib.hid d4
  obtain ⟨kd, l, seed, t⟩ := b
  simp only at hkd hl0
  subst hkd hl0
  have hcn := cn_le t
  simp only at HRA HR HG HWF HSH D2 D3 D4 hn hn1 ⊢
  obtain ⟨n, hnn⟩ : ∃ n, n = t.length := ⟨_, rfl⟩
  have HN := Lib.hid hnn
  rw [← hnn] at hn hn1 hcn HR ⊢
  simp only [List.length_nil] at HRA HR ⊢
  rw [show isD ⟨2, [], seed, t⟩ = true from rfl] at HRA ⊢
  rw [← hnn] at HRA
  obtain ⟨m, hm⟩ : ∃ m, m = cn t := ⟨_, rfl⟩
  rw [← hm] at hcn
  have HM := Lib.hid hm
  clear h hr hwf hsh hnn d2 d3 d4 hm
  have w3n : IntKind.i64.wrap (3 * (n : Int)) = 3 * (n : Int) := wrap_small _ (by omega) (by omega)
  have w4m : IntKind.i64.wrap (4 * (m : Int)) = 4 * (m : Int) := wrap_small _ (by omega) (by omega)
  go_enter Try.func88, Try.ntmps88
  go_upto_region 1 with (fail)
  have hb0 := (Below.refl w.heap.size w).alloc (Nat.le_refl _) (.cells (rcells (.slice A1 0 c1) seed (.slice A2 n c2) (.slice A3 n c3) (.slice A4 n c4) true) 105)
  have hb1 := hb0.alloc (by simp) (.cells noR 105)
  refine wp_world (fun W => Below w.heap.size w W ∧ W.heap[w.heap.size]? = some (.cells (rcells (.slice A1 0 c1) seed (.slice A2 n c2) (.slice A3 n c3) (.slice A4 n c4) true) 105 (0, 0)) ∧ W.heap[w.heap.size + 1]? = some (.cells noR 105 (0, 0))) ⟨hb1, ha_old (ha_new rfl), ha_new (by simp)⟩ ?_
  clear hb0 hb1
  rintro W ⟨hb, g1, g2⟩
  obtain ⟨x0, x1, x2, x3, x4, x5⟩ := rc_cell g1
  replace HRA := Lib.hid (HRA.out.below hb)
  replace HR := Lib.hid (HR.out.below hb)
  replace D2 := Lib.hid (D2.out.below hb)
  replace D3 := Lib.hid (D3.out.below hb)
  replace D4 := Lib.hid (D4.out.below hb)
  have HG1 := Lib.hid g1
  have HG2 := Lib.hid g2
  have HB := Lib.hid hb
  have LW := heap_lt g2
  refine wp_region_held_drew (S := Kept [] W) mixed (Kept.drew [] W) (fun hS => ?_)
  refine hv3 (i := 0) rfl (by kernel_rfl) Zg hS rfl (fun w' hw' => ex_row rfl (rowR (hw'.look g1 (by simp <;> omega)))) ?_; try simp only [Zq]
  refine hk3 (i := 3) rfl (by kernel_rfl) Zh hS rfl (fun K hK => ?_); go_simp; refine hK _ ?_; clear hK K; try simp only [Zq]
  refine hv3 (i := 4) rfl (by kernel_rfl) Zg hS rfl (fun w' hw' => ex_one rfl (one29 (hw'.cell x2 (by simp <;> omega)))) ?_; try simp only [Zq]
  refine hk3 (i := 5) rfl (by kernel_rfl) Zh hS rfl (fun K hK => ?_); go_simp; refine hK _ ?_; clear hK K; try simp only [Zq]
  refine hk3 (i := 6) rfl (by kernel_rfl) Zh hS rfl (fun K hK => ?_); go_simp; refine hK _ ?_; clear hK K; try simp only [Zq]
  refine ha_call (i := 1) (by kernel_rfl) rfl rfl (fun K hK => ?_); go_simp; refine ⟨_, _, ⟨rfl, rfl⟩, hK _ _ ⟨_, countI_any _ ⟨2, [], seed, t⟩ B (by have := HN.out; simp only; omega) _ (HRA.out.below (Below.refl _ W).drew), ?_⟩⟩; clear hK K; rintro e w1 ⟨rfl, hb1⟩; refine ⟨_, rfl, hS.below hb1, ?_⟩; replace hS := hS.below hb1; try simp only [Zq]
  rw [← HM.out]
  refine hk3 (i := 2) rfl (by kernel_rfl) Zh hS rfl (fun K hK => ?_); go_simp; refine hK _ ?_; clear hK K; try simp only [Zq]
  refine hk3 (i := 7) rfl (by kernel_rfl) Zh hS rfl (fun K hK => ?_); go_simp; refine hK _ ?_; clear hK K; try simp only [Zq]
  refine wpAnyH_done (by kernel_rfl) ?_ _
  have HW := Lib.hid (hS.toBelow (Nat.le_refl _) (by simp))
  have HRA1 := Lib.hid (HRA.out.below HW.out)
  have hg1 := below_look HW.out HG1.out
  have hg2 := below_look HW.out HG2.out
  have HBW := Lib.hid (HB.out.trans (HW.out.mono HB.out.size))
  have hks' := hks
  clear hS x0 x1 x2 x3 x4 x5 g1 g2 hb
  by_cases hgr : 3 * n ≤ 4 * m
  · have hgrI : 3 * (n : Int) ≤ 4 * (m : Int) := by omega
    have hgd : decide (3 * (n : Int) ≤ 4 * (m : Int)) = true := by simpa using hgrI
    have hgdN : decide (3 * n ≤ 4 * m) = true := by simpa using hgr
    have HAD : Hid (addT (HH seed) t key val = layT (HH seed) (growT (HH seed) t) key val) := Lib.hid (by unfold addT; rw [if_pos (by rw [← HN.out, ← HM.out]; exact hgr)])
    have HGG1 := Lib.hid hg1
    have HGG2 := Lib.hid hg2
    have w2n : IntKind.i64.wrap (2 * (n : Int)) = 2 * (n : Int) := wrap_small _ (by omega) (by omega)
    obtain ⟨-, y1, y2, -, -, -⟩ := rc_cell hg1
    clear hg1 hg2
    go_upto_region 2 with (fail)
    clear hgd hgdN hgr hgrI w3n w4m
    apply wp_region_lit
    refine wl_k rfl (fun K hK => ?_); go_simp; refine hK _ ?_; clear hK K
    ((with_reducible apply wl_oneG); exact rfl; exact rfl; exact one3 y1); try simp only [Zq]
    refine wl_k rfl (fun K hK => ?_); go_simp; refine hK _ ?_; clear hK K
    ((with_reducible apply wl_oneG); exact rfl; exact rfl; exact one29 y2); try simp only [Zq]
    iterate 2 (refine wl_k rfl (fun K hK => ?_); go_simp; refine hK _ ?_; clear hK K)
    try rw [w2n]
    rw [show 2 * (n : Int) = ((2 * n : Nat) : Int) by omega]
    refine wl_ck rfl (fun K hK => ?_); go_simp; refine ⟨_, _, ⟨rfl, rfl⟩, hK _ _ ⟨_, tableI_any seed (2 * n) (by omega) _, ?_⟩⟩; clear hK K; rintro e w3 ⟨vc, rfl, hrc, hb3⟩; refine ⟨_, rfl, ?_⟩; simp only [Zq]
    obtain ⟨BT, hBT⟩ : ∃ BT, BT = w1.heap.size := ⟨_, rfl⟩
    rw [← hBT] at hrc
    have HBT : Hid (Below BT w1 w3) := Lib.hid (by rw [hBT]; exact hb3)
    have hBTw : w.heap.size < BT := by have := heap_lt HGG1.out; omega
    have hBT2 : w.heap.size + 1 < BT := by have := heap_lt HGG2.out; omega
    have hBTW : W.heap.size ≤ BT := by rw [hBT]; exact HW.out.size
    have hBT3 : BT ≤ w3.heap.size := by rw [hBT]; exact hb3.size
    have hBT1 : BT ≤ w1.heap.size := by rw [hBT]; exact Nat.le_refl _
    obtain ⟨lv, kv, vv, uv, rfl, hrs⟩ := hrc
    rw [show isD ⟨2, [], seed, List.replicate (2 * n) none⟩ = true from rfl] at *
    simp only at hrs
    obtain ⟨VC, hVC⟩ : ∃ VC, VC = rcells lv seed kv vv uv true := ⟨_, rfl⟩
    have HVO := Lib.hid (hrs.one seed true)
    have HFT : Hid (∀ q, q ∈ footR kv vv uv ↔ RFoot (.agg VC) q) := Lib.hid (fun q => by rw [hVC]; exact mem_footR)
    have HRC : Hid (RAt w3 BT (.agg VC) ⟨2, [], seed, layAll (HH seed) (List.replicate (2 * n) none) (ents (t.take 0))⟩) := Lib.hid (by rw [hVC]; exact ⟨lv, kv, vv, uv, rfl, hrs⟩)
    have HVZ : Hid (VC.size = 6) := Lib.hid (by rw [hVC]; rfl)
    rw [← hVC] at HVO ⊢
    have HVR := Lib.hid hVC
    clear hVC hrs hb3 hBT y1 y2
    refine wl_new (fun ev w => ex_alloc105 rfl ev w) ?_
    intro W5 p7 hb5 hl5 h5
    refine wl_putG p7 VC rfl rfl 105 _ h5 (by rw [info105, HVZ.out]) (by rw [HVZ.out]; rfl) HVO.out ?_
    rw [put_noneA]
    have hbb := below_setRow hb5 (g := p7) hl5 VC
    have h5' := hr_new (cs := VC) h5
    replace HRC := Lib.hid (HRC.out.below hbb)
    have HB5 := Lib.hid (HBT.out.trans (hbb.mono hBT3))
    have hp7 : BT ≤ p7 := by omega
    clear hb5 h5 hbb hl5 HBT
    generalize W5.setRow p7 VC = w5 at *
    have HP7 := Lib.hid h5'
    clear h5'
    go_wp2_with fail
    go_loopw [8] (fun i wr => ∃ j : Nat, j ≤ n ∧ i = .int .i64 (j : Int) ∧ Hid (RAt wr BT (.agg VC) ⟨2, [], seed, layAll (HH seed) (List.replicate (2 * n) none) (ents (t.take j))⟩) ∧ Hid (wr.heap[p7]? = some (.cells VC 105 (0, 0))) ∧ Hid (Below BT w1 wr)) (fun i _ => n - (intOf i).toNat)
    case atStart => exact ⟨0, by omega, rfl, HRC, HP7, HB5⟩
    case round =>
      clear HRC HP7 HB5
      obtain ⟨j, hj, rfl, HRC, HP7, HB5⟩ := hrel
      have hg1 := HB5.out.block _ hBTw |>.trans HGG1.out
      obtain ⟨-, -, y2, y3, y4, -⟩ := rc_cell hg1
      have HWr : Hid (Below W.heap.size W wr) := Lib.hid (HW.out.trans (HB5.out.mono hBTW))
      by_cases hlt : j < n
      · have hltI : (j : Int) < (n : Int) := by omega
        have hjt : j < t.length := by rw [← HN.out]; exact hlt
        obtain ⟨q4, rfl, cu⟩ := col_u (D4.out.below HWr.out) hjt
        have HST := Lib.hid (grow_step (seed := seed) (T0 := List.replicate (2 * n) none) hjt)
        obtain ⟨U, hU⟩ : ∃ U, U = eb (pl t j) := ⟨_, rfl⟩
        rw [← hU] at cu
        have HU := Lib.hid hU
        cases U with
        | false =>
          have HRC2 : Hid (RAt wr BT (.agg VC) ⟨2, [], seed, layAll (HH seed) (List.replicate (2 * n) none) (ents (t.take (j + 1)))⟩) := Lib.hid (by rw [HST.out, ← HU.out]; exact HRC.out)
          clear hU hjt hg1 y3
          go_wp2_with fail
          go_roundw
          case rel => exact ⟨j + 1, by omega, by go_num, HRC2, HP7, HB5⟩
          case measure => simp [intOf]; omega
        | true =>
          obtain ⟨q2, rfl, ck0⟩ := col_k D2.out hjt
          obtain ⟨q3, rfl, cv0⟩ := col_v D3.out hjt
          have L2 := cell_ltG ck0
          have L3 := cell_ltG cv0
          have ck := below_cell HWr.out ck0
          have cv := below_cell HWr.out cv0
          clear ck0 cv0
          simp only at L2 L3
          have hkb : (ek (pl t j)).size ≤ 1000000000 := HSH.out j
          obtain ⟨Kj, hKj⟩ : ∃ Kj, Kj = ek (pl t j) := ⟨_, rfl⟩
          obtain ⟨Vj, hVj⟩ : ∃ Vj, Vj = ev (pl t j) := ⟨_, rfl⟩
          rw [← hKj] at ck hkb
          rw [← hVj] at cv
          have HST2 : Hid (layAll (HH seed) (List.replicate (2 * n) none) (ents (t.take (j + 1))) = layT (HH seed) (layAll (HH seed) (List.replicate (2 * n) none) (ents (t.take j))) Kj Vj) := Lib.hid (by rw [HST.out, ← HU.out, hKj, hVj]; rfl)
          obtain ⟨D, hD⟩ : ∃ D, D = p7 :: footR kv vv uv := ⟨_, rfl⟩
          have HD : Hid (∀ q, q ∈ D ↔ q = p7 ∨ RFoot (.agg VC) q) := Lib.hid (fun q => by rw [hD, List.mem_cons, HFT.out])
          have HDB : Hid (∀ q ∈ D, BT ≤ q) := Lib.hid (fun q hq => ((HD.out q).1 hq).elim (fun e => by omega) (fun hf => (HRC.out.foot hf).1))
          have hlen : (layAll (HH seed) (List.replicate (2 * n) none) (ents (t.take j))).length = 2 * n := by rw [layAll_length, List.length_replicate]
          have hgap := grow_gap (seed := seed) (t := t) n HN.out hn1 j
          have HLAY := Lib.hid (layI_any (.agg VC) ⟨2, [], seed, layAll (HH seed) (List.replicate (2 * n) none) (ents (t.take j))⟩ BT Kj Vj hkb (by simp only; rw [hlen]; omega) (by simp only; rw [hlen]; omega) hgap wr.drew (HRC.out.below (Below.refl _ wr).drew))
          have hgn : w.heap.size ∉ D := fun hm => by have := HDB.out _ hm; omega
          have h2n : q2 ∉ D := fun hm => by have := HDB.out _ hm; omega
          have h3n : q3 ∉ D := fun hm => by have := HDB.out _ hm; omega
          clear hU hD hlen hgap hKj hVj hjt hkb
          go_upto_region 7 with (fail)
          refine wp_region_held_drew (S := Kept D wr) mixed (Kept.drew D wr) (fun hS => ?_)
          have hp7D : Hid (p7 ∈ D) := Lib.hid ((HD.out p7).2 (Or.inl rfl))
          refine hk3 (i := 1) rfl (by kernel_rfl) Zh hS rfl (fun K hK => ?_); go_simp; refine hK _ ?_; clear hK K; try simp only [Zq]
          (refine hv3 (i := 2) rfl (by kernel_rfl) Zg hS rfl (fun w' hw' => ex_one rfl (one29 (hw'.cell y2 hgn))) ?_; try simp only [Zq])
          refine hk3 (i := 3) rfl (by kernel_rfl) Zh hS rfl (fun K hK => ?_); go_simp; refine hK _ ?_; clear hK K; try simp only [Zq]
          refine hk3 (i := 4) rfl (by kernel_rfl) Zh hS rfl (fun K hK => ?_); go_simp; refine hK _ ?_; clear hK K; try simp only [Zq]
          (refine hv3 (i := 5) rfl (by kernel_rfl) Zg hS rfl (fun w' hw' => ex_one rfl (one9 (hw'.cell ck h2n))) ?_; try simp only [Zq])
          refine hk3 (i := 6) rfl (by kernel_rfl) Zh hS rfl (fun K hK => ?_); go_simp; refine hK _ ?_; clear hK K; try simp only [Zq]
          (refine hv3 (i := 7) rfl (by kernel_rfl) Zg hS rfl (fun w' hw' => ex_one rfl (one63 (hw'.cell y3 hgn))) ?_; try simp only [Zq])
          refine hk3 (i := 8) rfl (by kernel_rfl) Zh hS rfl (fun K hK => ?_); go_simp; refine hK _ ?_; clear hK K; try simp only [Zq]
          refine hk3 (i := 9) rfl (by kernel_rfl) Zh hS rfl (fun K hK => ?_); go_simp; refine hK _ ?_; clear hK K; try simp only [Zq]
          (refine hv3 (i := 10) rfl (by kernel_rfl) Zg hS rfl (fun w' hw' => ex_one rfl (one3 (hw'.cell cv h3n))) ?_; try simp only [Zq])
          refine ha_do (i := 0) (by kernel_rfl) rfl rfl (ex_row rfl (row_mid (off := 0) (show wr.drew.heap[p7]? = _ from HP7.out) (D := VC) (n := 6) (by rw [← HVZ.out, Nat.zero_add]; exact Array.extract_size) u105 rfl HVZ.out info105)) hS ?_; try simp only [Zq]
          refine ha_call (i := 11) (by kernel_rfl) rfl rfl (fun K hK => ?_); go_simp; refine ⟨_, _, ⟨rfl, rfl⟩, hK _ _ ⟨_, HLAY.out, ?_⟩⟩; clear hK K; rintro e w9 ⟨rfl, hra9, hrk9⟩; refine ⟨_, rfl, hS.rk hrk9 (fun q hq => Or.inl ((HD.out q).2 (Or.inr hq))), ?_⟩; replace hS := hS.rk hrk9 (fun q hq => Or.inl ((HD.out q).2 (Or.inr hq))); try simp only [Zq]
          have hp79 := hrk9.look (HRC.out.below (Below.refl _ wr).drew) HP7.out
          refine ha_store (i := 12) (by kernel_rfl) rfl rfl 105 _ _ rfl p7 VC rfl rfl 105 _ hp79 (by rw [info105, HVZ.out]) rfl HVO.out (hS.setRow hp7D.out _) (fun hS => ?_); try simp only [Zq]
          refine wpAnyH_done (by kernel_rfl) ?_ _
          have HRC2 : Hid (RAt (w9.setRow p7 VC) BT (.agg VC) ⟨2, [], seed, layAll (HH seed) (List.replicate (2 * n) none) (ents (t.take (j + 1)))⟩) := Lib.hid (by rw [HST2.out]; exact hra9.row105 hp79 VC)
          have HP72 : Hid ((w9.setRow p7 VC).heap[p7]? = some (.cells VC 105 (0, 0))) := Lib.hid (hr_new hp79)
          have HB52 : Hid (Below BT w1 (w9.setRow p7 VC)) := Lib.hid (HB5.out.trans (hS.toBelow (Nat.le_trans hBT1 HB5.out.size) HDB.out))
          clear hS hra9 hrk9 hp79 HLAY HRC HP7 HB5 HST HST2 ck cv hg1 y2 y3 y4 hgn h2n h3n HD HDB hp7D L2 L3
          go_wp2_with fail
          go_roundw
          case rel => exact ⟨j + 1, by omega, by go_num, HRC2, HP72, HB52⟩
          case measure => simp [intOf]; omega
      · obtain rfl : j = n := by omega
        have HRC2 : Hid (RAt wr BT (.agg VC) ⟨2, [], seed, growT (HH seed) t⟩) := Lib.hid (by
          have h9 := HRC.out
          rw [HN.out, List.take_length] at h9
          exact h9)
        have HGR1 := Lib.hid hg1
        have HGR2 := Lib.hid (HB5.out.block _ hBT2 |>.trans HGG2.out)
        have hgw := grow_good (HH seed) (t := t) HWF.out
        have hgl := growT_length (HH seed) t
        have hgp : ∃ i, i < (growT (HH seed) t).length ∧ occ (growT (HH seed) t) i = false := hgw.1.gap
        have HBWr : Hid (Below w.heap.size w wr) := Lib.hid (HBW.out.trans (HB5.out.mono (by omega)))
        clear hgw hg1 y3 y4
        go_upto_region 8 with (fail)
        clear y2
        apply wp_region_lit
        ((with_reducible apply wl_rowG); exact rfl; exact rfl; exact row_mid (off := 0) HP7.out (D := VC) (n := 6) (by rw [← HVZ.out, Nat.zero_add]; exact Array.extract_size) u105 rfl HVZ.out info105)
        try simp only [Zq]
        refine wl_putG w.heap.size VC rfl rfl 105 _ HGR1.out (by rw [info105, HVZ.out]) (by rw [HVZ.out]; rfl) HVO.out ?_
        rw [put_noneA]
        have hs1 := hr_new (cs := VC) HGR1.out
        have hs2 := hr_old (g := w.heap.size) (cs := VC) HGR2.out (by omega)
        have hra8 := HRC2.out.row105 HGR1.out VC
        have hbw8 := below_setRow HBWr.out (g := w.heap.size) (Nat.le_refl _) VC
        have hz8 : BT ≤ (wr.setRow w.heap.size VC).heap.size := by have := HB5.out.size; have h9 := (below_setRow (Below.refl 0 wr) (g := w.heap.size) (Nat.zero_le _) VC).size; omega
        generalize wr.setRow w.heap.size VC = w8 at *
        have HS1 := Lib.hid hs1
        have HS2 := Lib.hid hs2
        have HRA8 := Lib.hid hra8
        have HBW8 := Lib.hid hbw8
        clear hs1 hs2 hra8 hbw8 HGR1 HGR2 HRC HRC2 HP7 HB5 HWr HBWr
        go_upto_region 9 with (fail)
        apply wp_region_lit
        ((with_reducible apply wl_rowG); exact rfl; exact rfl; exact row_mid (off := 0) HS1.out (D := VC) (n := 6) (by rw [← HVZ.out, Nat.zero_add]; exact Array.extract_size) u105 rfl HVZ.out info105)
        try simp only [Zq]
        iterate 2 (refine wl_k rfl (fun K hK => ?_); go_simp; refine hK _ ?_; clear hK K)
        refine wl_ck rfl (fun K hK => ?_); go_simp; refine ⟨_, _, ⟨rfl, rfl⟩, hK _ _ ⟨_, layI_any _ ⟨2, [], seed, growT (HH seed) t⟩ BT key val hks (by simp only; omega) (by simp only; have := HN.out; omega) hgp _ HRA8.out, ?_⟩⟩; clear hK K; rintro e w9 ⟨rfl, hra9, hrk9⟩; refine ⟨_, rfl, ?_⟩; simp only [Zq]
        have hg2 := hrk9.look HRA8.out HS2.out
        refine wl_putG (w.heap.size + 1) VC rfl rfl 105 _ hg2 (by rw [info105, HVZ.out]) (by rw [HVZ.out]; rfl) HVO.out ?_
        rw [put_noneA]
        have HFIN := Lib.hid (hr_new (cs := VC) hg2)
        have HRF := Lib.hid ((hra9.row105 hg2 VC).weak (show B ≤ BT by omega))
        have HBF := Lib.hid (below_setRow ((HBW8.out.mono hBw).trans ((hrk9.toBelow HRA8.out hz8).mono (by omega))) (g := w.heap.size + 1) (by omega) VC)
        have HKF : Hid (Keep105 w (w9.setRow (w.heap.size + 1) VC)) := Lib.hid (fun q cs hq => hr_old (hrk9.look HRA8.out (below_look HBW8.out hq)) (by have := heap_lt hq; omega))
        clear hg2 hra9 hrk9 HS1 HS2 HRA8 hgp hgl
        rw [HVR.out] at HFIN ⊢
        go_wp2_with fail
        exact bodyPost_ret (res_105 rfl _ _ (w.heap.size + 1) rfl HFIN.out) rfl ⟨_, rfl, by rw [HAD.out, ← HVR.out]; exact HRF.out, by rw [← HVR.out]; exact HBF.out, by rw [← HVR.out]; exact HKF.out⟩
  · have hgrI : ¬ 3 * (n : Int) ≤ 4 * (m : Int) := by omega
    have hgd : decide (3 * (n : Int) ≤ 4 * (m : Int)) = false := by simpa using hgrI
    have HAD : Hid (addT (HH seed) t key val = layT (HH seed) t key val) := Lib.hid (by unfold addT; rw [if_neg (by rw [← HN.out, ← HM.out]; exact hgr)])
    have HGG1 := Lib.hid hg1
    have HGG2 := Lib.hid hg2
    have hgdN : decide (3 * n ≤ 4 * m) = false := by simpa using hgr
    clear hg1 hg2
    go_upto_region 9 with (fail)
    clear hgd hgdN hgr hgrI w3n w4m
    apply wp_region_lit
    ((with_reducible apply wl_rowG); exact rfl; exact rfl; exact rowR HGG1.out)
    try simp only [Zq]
    iterate 2 (refine wl_k rfl (fun K hK => ?_); go_simp; refine hK _ ?_; clear hK K)
    refine wl_ck rfl (fun K hK => ?_); go_simp; refine ⟨_, _, ⟨rfl, rfl⟩, hK _ _ ⟨_, layI_any _ ⟨2, [], seed, t⟩ B key val hks (by have := HN.out; simp only; omega) (by have := HN.out; simp only; omega) HG.out _ HRA1.out, ?_⟩⟩; clear hK K; rintro e w9 ⟨rfl, hra9, hrk9⟩; refine ⟨_, rfl, ?_⟩; simp only [Zq]
    have hg2 := hrk9.look HRA1.out HGG2.out
    refine wl_putG (w.heap.size + 1) (rcells (.slice A1 0 c1) seed (.slice A2 n c2) (.slice A3 n c3) (.slice A4 n c4) true) rfl rfl 105 _ hg2 info105 rfl (rcells_one _ _ _ _ _ _ _ _ _ _ _ _ _ _) ?_
    rw [put_noneA]
    have HFIN := Lib.hid (hr_new (cs := rcells (.slice A1 0 c1) seed (.slice A2 n c2) (.slice A3 n c3) (.slice A4 n c4) true) hg2)
    have HRF := Lib.hid (hra9.row105 hg2 (rcells (.slice A1 0 c1) seed (.slice A2 n c2) (.slice A3 n c3) (.slice A4 n c4) true))
    have HBF := Lib.hid (below_setRow ((HBW.out.mono hBw).trans (hrk9.toBelow HRA1.out (by have := HBW.out.size; omega))) (g := w.heap.size + 1) (by omega) (rcells (.slice A1 0 c1) seed (.slice A2 n c2) (.slice A3 n c3) (.slice A4 n c4) true))
    have HKF : Hid (Keep105 w (w9.setRow (w.heap.size + 1) (rcells (.slice A1 0 c1) seed (.slice A2 n c2) (.slice A3 n c3) (.slice A4 n c4) true))) := Lib.hid (fun q cs hq => hr_old (hrk9.look HRA1.out (below_look HBW.out hq)) (by have := heap_lt hq; omega))
    clear hg2 hra9 hrk9 HGG1 HGG2 HRA1
    go_wp2_with fail
    exact bodyPost_ret (res_105 rfl _ _ (w.heap.size + 1) rfl HFIN.out) rfl ⟨_, rfl, by rw [HAD.out]; exact HRF.out, HBF.out, HKF.out⟩
end Go.Proofs.Ytbhdgeoljlhmcaa
