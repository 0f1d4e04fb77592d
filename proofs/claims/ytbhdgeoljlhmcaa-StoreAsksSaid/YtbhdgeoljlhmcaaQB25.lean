/- A name's item, by the document. A script played, by the document. -/
import Derived.Outline
import Derived.Test.YtbhdgeoljlhmcaaQB24
import Derived.Test.YtbhdgeoljlhmcaaQB11
namespace Go.Proofs.Ytbhdgeoljlhmcaa
open Go.RowKit Go.Proofs.Ytbhdgeoljlhmcaa.Nm Go.Proofs.Ytbhdgeoljlhmcaa.St
set_option linter.unusedSimpArgs false
theorem built91 (k : ByteArray) (v : Int) : Try.prog.built 91 [(0, .string k), (1, .int .i64 v)] = some (pair k v) := by kernel_rfl
theorem built32a (A : Option Addr) (n c : Nat) : Try.prog.built 32 [(0, .int .i64 1), (1, .slice A n c)] = some (icells 1 (.slice A n c) 0 (.slice none 0 0)) := by kernel_rfl
theorem built32d (s : Int) : Try.prog.built 32 [(0, .int .i64 2), (2, .int .i64 s)] = some (icells 2 (.slice none 0 0) s (.slice none 0 0)) := by kernel_rfl
theorem own_pair1 (w : World) (k : ByteArray) (v : Int) : (w.alloc (.cells (pair k v) 91)).ownsRow w.heap.size 91 2 (.slice (some ⟨w.heap.size, 0, none⟩) 1 1) 1 (prow [(k, v)]) :=
  ⟨rfl, Or.inr ⟨w.heap.size, 1, pair k v, rfl, Nat.le_refl _, ha_new rfl, by omega, by unfold maxLen; omega, rfl, rfl⟩⟩
theorem own_keptT {w w' : World} {B e size n p : Nat} {x : Value} {xs : List Value} {cs : Array Value} {t : TypeId} (h : w.ownsRow B e size x n xs) (hk : Kept [p] w w') (hp : w.heap[p]? = some (.cells cs t (0, 0))) (he : e ≠ t) : w'.ownsRow B e size x n xs :=
  own_same h (fun q hq hx => hk.block q hq (fun hm => by
    simp at hm; subst hm
    obtain ⟨_, cc, hcc⟩ := own_block h hx
    rw [hp] at hcc
    simp only [Option.some.injEq, Obj.cells.injEq] at hcc
    exact he hcc.2.1.symm))
theorem RSl.keptT {w w' : World} {B p : Nat} {lv kv vv uv : Value} {l : List ByteArray} {t : Tab} {cs : Array Value} {ty : TypeId} (h : RSl w B lv kv vv uv l t) (hk : Kept [p] w w') (hp : w.heap[p]? = some (.cells cs ty (0, 0))) (h9 : 9 ≠ ty) (h3 : 3 ≠ ty) (h4 : 4 ≠ ty) : RSl w' B lv kv vv uv l t :=
  ⟨own_keptT h.l hk hp h9, own_keptT h.k hk hp h9, own_keptT h.v hk hp h3, own_keptT h.u hk hp h4, h.ne⟩
theorem pairs_fnd {seed : Int} {t : Tab} (hw : t = [] ∨ Wf (HH seed) t) {j : Nat} {k : ByteArray} {v : Int} (h : (pairsT t)[j]? = some (k, v)) : ∃ i : Nat, i < t.length ∧ fnd seed t k = (i : Int) ∧ ev (pl t i) = v := by
  have hm : (k, v) ∈ ents t := List.mem_of_getElem? h
  obtain ⟨i, hi, hp⟩ := has_mem.2 hm
  exact ⟨i, hi, fnd_at hw hi (by unfold eb; rw [hp]; rfl) (by unfold ek; rw [hp]), by unfold Go.Proofs.Ytbhdgeoljlhmcaa.ev; rw [hp]⟩
theorem Nm.Kept.grownNew {D : List Nat} {row : Option Nat} {W w w' : World} (h : Kept D W w) (hg : w.grownBy w' row) (hm : ∀ p, row = some p → W.heap.size ≤ p) : Kept D W w' :=
  ⟨Nat.le_trans h.1 hg.size, fun k hk hp => by rw [hg.block k (by have := h.1; omega) (fun e => by have := hm k e.symm; omega)]; exact h.2 k hk hp, hg.os.trans h.os, hg.tape.trans h.tape, hg.output.trans h.output⟩
theorem own_neT {w : World} {B e s n p g c : Nat} {xs : List Value} {cs : Array Value} {t : TypeId} (h : w.ownsRow B e s (.slice (some ⟨p, 0, none⟩) n c) n xs) (hg : w.heap[g]? = some (.cells cs t (0, 0))) (he : e ≠ t) : p ≠ g := fun e2 => by
  subst e2
  obtain ⟨_, d1, hd1⟩ := own_block h (q := p) rfl
  rw [hg] at hd1; simp only [Option.some.injEq, Obj.cells.injEq] at hd1; exact he hd1.2.1.symm
set_option maxHeartbeats 4000000 in
set_option maxRecDepth 100000 in
theorem ItemI_no (v : Value) (A : Sto) (B : Nat) (n : Int) (hn0 : isNm n = false) (w : World) (h : DAt w B v A) :
    Calls Try.prog 40 #[v, .int .i64 n] w fun e w' => e = .returned (.tuple #[.agg (icells 0 (.slice none 0 0) 0 (.slice none 0 0)), .int .i64 4]) ∧ Below w.heap.size w w' := by
  obtain ⟨nv, bv, rfl, hn, hbs⟩ := h
  obtain ⟨M, hM⟩ : ∃ M, M = A.made := ⟨_, rfl⟩
  obtain ⟨sh, hsh⟩ : ∃ sh, sh = A.shared := ⟨_, rfl⟩
  rw [← hM, ← hsh]
  have HN := Lib.hid hn
  have HBS := Lib.hid hbs
  clear hn hbs hM hsh
  go_enter Try.func40, Try.ntmps40
  go_upto_region 1 with (fail)
  refine wp_world (fun W => Below w.heap.size w W ∧ W.heap[w.heap.size]? = some (.cells (sc66 nv bv M sh) 66 (0, 0)) ∧ W.heap[w.heap.size + 1]? = some (.cells (icells 0 (.slice none 0 0) 0 (.slice none 0 0)) 32 (0, 0))) ⟨((Below.refl w.heap.size w).alloc (Nat.le_refl _) _).alloc (by simp) _, ha_old (ha_new rfl), ha_new (by simp)⟩ ?_
  rintro W ⟨hb, g1, g2⟩
  replace HN := Lib.hid (own_below HN.out hb)
  replace HBS := Lib.hid (HBS.out.below hb)
  apply wp_region_lit
  refine wl_k rfl (fun K hK => ?_); go_simp; refine hK _ ?_; clear hK K
  refine wl_ck rfl (fun K hK => ?_); go_simp; refine ⟨_, _, ⟨rfl, rfl⟩, hK _ _ ⟨_, NameI_any _ _, ?_⟩⟩; clear hK K; rintro e w1 ⟨rfl, rfl⟩; refine ⟨_, rfl, ?_⟩; simp only [Zq]
  try rw [hn0]
  refine wl_k rfl (fun K hK => ?_); go_simp; refine hK _ ?_; clear hK K
  go_upto_region 2 with (fail)
  apply wp_region_lit
  refine wl_val rfl (ex_build 32 _ rfl (L := []) rfl built32_0) ?_
  try simp only [Zy]
  refine wl_putG (w.heap.size + 1) (icells 0 (.slice none 0 0) 0 (.slice none 0 0)) rfl rfl 32 _ g2 info32 rfl (icells_one _ _ _ _ _ _ _ _) ?_
  rw [put_noneA]
  have HFIN := Lib.hid (hr_new (cs := icells 0 (.slice none 0 0) 0 (.slice none 0 0)) g2)
  have HB := Lib.hid (below_setRow hb (g := w.heap.size + 1) (by omega) (icells 0 (.slice none 0 0) 0 (.slice none 0 0)))
  clear g1 g2 hb
  go_wp2_with fail
  exact bodyPost_ret (res_item rfl _ _ (w.heap.size + 1) rfl HFIN.out) rfl ⟨rfl, HB.out⟩
set_option maxHeartbeats 4000000 in
set_option maxRecDepth 100000 in
theorem ItemI_yes (v : Value) (A : Sto) (B : Nat) (hA : Good A) (f : Nat) (hf : (f : Int) < 8) (w : World) (h : DAt w B v A) :
    Calls Try.prog 40 #[v, .int .i64 (f : Int)] w fun e w' => ∃ v', e = .returned (.tuple #[v', .int .i64 0]) ∧ ItemAt w' w.heap.size v' (A.buf (f : Int)) ∧ Below w.heap.size w w' := by
  have HA := Lib.hid hA
  have hf8 : f < 8 := by omega
  have hnm : isNm (f : Int) = true := by unfold isNm; simp; omega
  clear hA
  obtain ⟨nv, bv, rfl, hn, hbs⟩ := h
  obtain ⟨M, hM⟩ : ∃ M, M = A.made := ⟨_, rfl⟩
  obtain ⟨sh, hsh⟩ : ∃ sh, sh = A.shared := ⟨_, rfl⟩
  rw [← hM, ← hsh]
  have HN := Lib.hid hn
  have HBS := Lib.hid hbs
  clear hn hbs hM hsh
  go_enter Try.func40, Try.ntmps40
  go_upto_region 1 with (fail)
  refine wp_world (fun W => Below w.heap.size w W ∧ W.heap[w.heap.size]? = some (.cells (sc66 nv bv M sh) 66 (0, 0)) ∧ W.heap[w.heap.size + 1]? = some (.cells (icells 0 (.slice none 0 0) 0 (.slice none 0 0)) 32 (0, 0))) ⟨((Below.refl w.heap.size w).alloc (Nat.le_refl _) _).alloc (by simp) _, ha_old (ha_new rfl), ha_new (by simp)⟩ ?_
  rintro W ⟨hb, g1, g2⟩
  replace HN := Lib.hid (own_below HN.out hb)
  replace HBS := Lib.hid (HBS.out.below hb)
  apply wp_region_lit
  refine wl_k rfl (fun K hK => ?_); go_simp; refine hK _ ?_; clear hK K
  refine wl_ck rfl (fun K hK => ?_); go_simp; refine ⟨_, _, ⟨rfl, rfl⟩, hK _ _ ⟨_, NameI_any _ _, ?_⟩⟩; clear hK K; rintro e w1 ⟨rfl, rfl⟩; refine ⟨_, rfl, ?_⟩; simp only [Zq]
  rw [hnm]
  refine wl_k rfl (fun K hK => ?_); go_simp; refine hK _ ?_; clear hK K
  obtain ⟨p, c, rfl, -⟩ := own_p HN.out (by omega)
  have hnc := own_name HN.out hf8 (id_names HA.out (n := (f : Int)) (by omega) hf)
  obtain ⟨a0, a1, -, -⟩ := s66_cell g1
  cases hid : A.id (f : Int) with
  | none =>
    rw [hid, show numN none = -1 from rfl] at hnc
    go_upto_region 4 with (fail)
    apply wp_region_lit
    refine wl_val rfl (ex_build 32 _ rfl (L := []) rfl built32_0) ?_
    try simp only [Zy]
    refine wl_putG (w.heap.size + 1) (icells 0 (.slice none 0 0) 0 (.slice none 0 0)) rfl rfl 32 _ g2 info32 rfl (icells_one _ _ _ _ _ _ _ _) ?_
    rw [put_noneA]
    have HFIN := Lib.hid (hr_new (cs := icells 0 (.slice none 0 0) 0 (.slice none 0 0)) g2)
    have HB := Lib.hid (below_setRow hb (g := w.heap.size + 1) (by omega) (icells 0 (.slice none 0 0) 0 (.slice none 0 0)))
    clear g1 g2 hb hnc a0 a1
    go_wp2_with fail
    exact bodyPost_ret (res_item rfl _ _ (w.heap.size + 1) rfl HFIN.out) rfl ⟨_, rfl, by rw [buf_none hid]; exact itemAt_no _ _, HB.out⟩
  | some i =>
    rw [hid, show numN (some i) = (i : Int) from rfl] at hnc
    have hil := HA.out.there f i (by have := id_names HA.out (n := (f : Int)) (by omega) hf; rwa [hid] at this)
    obtain ⟨b, hbi⟩ : ∃ b, A.bufs[i]? = some b := ⟨_, List.getElem?_eq_getElem hil⟩
    have HBF := Lib.hid (buf_of hid hbi)
    have HGB := Lib.hid (HA.out.bufs i b hbi)
    obtain ⟨q, cap, cur, rfl, -, hcur, hall⟩ := HBS.out.cells (by omega)
    obtain ⟨lv, kv, vv, uv, hx, -, hRS, -⟩ := hall i b hbi
    have HX := Lib.hid hx
    have HRS := Lib.hid hRS
    obtain ⟨n2, hn2⟩ : ∃ n2, n2 = A.bufs.length := ⟨_, rfl⟩
    rw [← hn2] at a1 hil
    have hilI : (i : Int) < (n2 : Int) := by omega
    have hi0 : ¬ (i : Int) < 0 := by omega
    have HG2 := Lib.hid g2
    have HB := Lib.hid hb
    have LG := heap_lt g2
    clear hall hx hRS hbi hid hn2 g1 g2 hb HN HBS
    go_upto_region 5 with (fail)
    refine wp_region_held_drew (S := Kept [] W) mixed (Kept.drew [] W) (fun hS => ?_)
    refine hk3 (i := 0) rfl (by kernel_rfl) Zh hS rfl (fun K hK => ?_); go_simp; refine hK _ ?_; clear hK K; try simp only [Zq]
    refine hv3 (i := 1) rfl (by kernel_rfl) Zg hS rfl (fun w' hw' => ex_one rfl (one64 (hw'.cell a1 (by simp <;> omega)))) ?_; try simp only [Zq]
    refine hk3 (i := 2) rfl (by kernel_rfl) Zh hS rfl (fun K hK => ?_); go_simp; refine hK _ ?_; clear hK K; try simp only [Zq]
    refine hv3 (i := 3) rfl (by kernel_rfl) Zg hS rfl (fun w' hw' => ex_one rfl (one63 (hw'.cell a0 (by simp <;> omega)))) ?_; try simp only [Zq]
    refine hk3 (i := 4) rfl (by kernel_rfl) Zh hS rfl (fun K hK => ?_); go_simp; refine hK _ ?_; clear hK K; try simp only [Zq]
    refine hk3 (i := 5) rfl (by kernel_rfl) Zh hS rfl (fun K hK => ?_); go_simp; refine hK _ ?_; clear hK K; try simp only [Zq]
    refine hv3 (i := 6) rfl (by kernel_rfl) Zg hS rfl (fun w' hw' => ex_one rfl (one3 (hw'.cell hnc (by simp <;> omega)))) ?_; try simp only [Zq]
    refine hk3 (i := 7) rfl (by kernel_rfl) Zh hS rfl (fun K hK => ?_); go_simp; refine hK _ ?_; clear hK K; try simp only [Zq]
    (refine hv3 (i := 8) rfl (by kernel_rfl) Zg hS rfl (fun w' hw' => ex_row rfl ((fun h => row_mid h HX.out u105 rfl rfl info105) (hw'.look hcur (by simp)))) ?_; try simp only [Zy])
    have hb1 := (Below.refl W.drew.heap.size W.drew).alloc (Nat.le_refl _) (.cells noR 105)
    have hSn := hS.below hb1
    have hal : (W.drew.alloc (.cells noR 105)).heap[W.drew.heap.size]? = some (.cells noR 105 (0, 0)) := ha_new rfl
    have hp6 : W.heap.size ≤ W.drew.heap.size := hS.size
    refine ha_do (i := 9) (by kernel_rfl) rfl rfl (ex_alloc105 rfl _ _) hSn ?_; try simp only [Zy]
    replace hS := hSn
    clear hSn hb1
    generalize W.drew.alloc (.cells noR 105) = w4 at *
    generalize W.drew.heap.size = p6 at hal hp6 ⊢
    refine ha_store (i := 10) (by kernel_rfl) rfl rfl 105 _ _ rfl p6 (rcells lv b.seed kv vv uv (isD b)) rfl rfl 105 _ hal info105 rfl (HRS.out.one b.seed (isD b)) (hS.setNew hp6 _) (fun hS => ?_); try simp only [Zy]
    refine wpAnyH_done (by kernel_rfl) ?_ _
    rw [put_noneA]
    have hbw := hS.toBelow (Nat.le_refl _) (by simp)
    have H6 := Lib.hid (hr_new (cs := rcells lv b.seed kv vv uv (isD b)) hal)
    replace HG2 := Lib.hid (below_look hbw HG2.out)
    replace HRS := Lib.hid (HRS.out.below hbw)
    have hWs := HB.out.size
    replace HB := Lib.hid (HB.out.trans (hbw.mono HB.out.size))
    have hbS := hbw.size
    clear hS hal hbw hcur HX a0 a1 hnc hilI hil hi0
    generalize w4.setRow p6 (rcells lv b.seed kv vv uv (isD b)) = w5 at *
    have HRA : Hid (RAt w5 0 (.agg (rcells lv b.seed kv vv uv (isD b))) b) := Lib.hid ⟨_, _, _, _, rfl, HRS.out.weak (Nat.zero_le _)⟩
    obtain ⟨dd, hdd⟩ : ∃ dd, dd = isD b := ⟨_, rfl⟩
    rw [← hdd] at H6 HRA ⊢
    have HDD := Lib.hid hdd
    clear hdd
    obtain ⟨z0, z1, z2, z3, z4, z5⟩ := rc_cell H6.out
    cases dd with
    | false =>
      have hkd : b.kd = 1 := by
        have h1 := HDD.out
        rcases HGB.out with h | h
        · exact h.1
        · unfold isD at h1; rw [h.1] at h1; simp at h1
      obtain ⟨h1, h2, h3⟩ : b.seed = 0 ∧ b.t = [] ∧ b.l.length ≤ 100 := by
        rcases HGB.out with h | h
        · exact h.2
        · rw [hkd] at h; simp at h
      have HPL := Lib.hid (And.intro hkd (And.intro h1 h2))
      obtain ⟨A1, c1, rfl, hs1⟩ := own_str HRS.out.l rfl
      have HS1 := Lib.hid hs1
      obtain ⟨L, hL⟩ : ∃ L, L = b.l.length := ⟨_, rfl⟩
      rw [← hL] at z0 HS1 h3
      have HL := Lib.hid hL
      clear hs1 hL hkd h1 h2
      go_upto_region 7 with (fail)
      apply wp_region_lit
      refine wl_k rfl (fun K hK => ?_); go_simp; refine hK _ ?_; clear hK K
      ((with_reducible apply wl_oneG); exact rfl; exact rfl; exact one29 z0); try simp only [Zy]
      refine wl_ck rfl (fun K hK => ?_); go_simp; refine ⟨_, _, ⟨rfl, rfl⟩, hK _ _ ⟨_, CopyStrings_any A1 L c1 b.l (by omega) _ HS1.out, ?_⟩⟩; clear hK K; rintro e w6 ⟨v', rfl, ho, hb1⟩; refine ⟨_, rfl, ?_⟩; simp only [Zq]
      obtain ⟨A3, c3, rfl⟩ := own_shape ho
      have HO := Lib.hid (own_weak ho (show w.heap.size ≤ w5.heap.size by omega))
      replace HG2 := Lib.hid (below_look hb1 HG2.out)
      replace HB := Lib.hid (HB.out.trans (hb1.mono HB.out.size))
      clear hb1 ho
      refine wl_val rfl (ex_build 32 _ rfl (L := [(0, .int .i64 1), (1, .slice A3 L c3)]) rfl (built32a _ _ _)) ?_
      try simp only [Zy]
      refine wl_putG (w.heap.size + 1) (icells 1 (.slice A3 L c3) 0 (.slice none 0 0)) rfl rfl 32 _ HG2.out info32 rfl (icells_one _ _ _ _ _ _ _ _) ?_
      rw [put_noneA]
      have HFIN := Lib.hid (hr_new (cs := icells 1 (.slice A3 L c3) 0 (.slice none 0 0)) HG2.out)
      have HB9 := Lib.hid (below_setRow HB.out (g := w.heap.size + 1) (by omega) (icells 1 (.slice A3 L c3) 0 (.slice none 0 0)))
      have HO9 := Lib.hid (own_rowT HO.out HG2.out (by decide) (icells 1 (.slice A3 L c3) 0 (.slice none 0 0)))
      clear z0 z1 z2 z3 z4 z5 HO HG2 HRA HRS H6 HB
      go_wp2_with fail
      exact bodyPost_ret (res_item rfl _ _ (w.heap.size + 1) rfl HFIN.out) rfl ⟨_, rfl, ⟨_, _, by rw [HBF.out, HPL.out.1, HPL.out.2.1], by rw [HBF.out, ← HL.out]; exact HO9.out, by rw [HBF.out, HPL.out.2.2]; exact own_nil _ _ _ _⟩, HB9.out⟩
    | true =>
      have hkd : b.kd = 2 := by
        have h1 := HDD.out
        unfold isD at h1
        simpa using h1.symm
      obtain ⟨-, -, hl0, hwf, hsh, ht4, ht264, hcn⟩ := HGB.out.dict hkd
      have HLN := Lib.hid (And.intro hl0 hkd)
      have HWF : Hid (b.t = [] ∨ Wf (HH b.seed) b.t) := Lib.hid (Or.inr hwf)
      obtain ⟨A1, c1, A2, c2, A3, c3, A4, c4, rfl, rfl, rfl, rfl⟩ := HRS.out.shapes
      obtain ⟨pv, cv, ev', -⟩ := own_p HRS.out.v (by omega)
      obtain ⟨tn, htn⟩ : ∃ n, n = b.t.length := ⟨_, rfl⟩
      rw [← htn] at z2 z3 z4 HRA H6 ev' ht4 ht264
      have hA3 : A3 = some ⟨pv, 0, none⟩ := by cases ev'; rfl
      subst hA3
      have HTN := Lib.hid htn
      obtain ⟨np, hnp⟩ : ∃ n, n = (pairsT b.t).length := ⟨_, rfl⟩
      have hnpb : np ≤ 264 := by have := pairsT_le b.t; omega
      have HNP := Lib.hid hnp
      clear hl0 hkd hwf hsh hcn ev' htn hnp
      go_upto_region 8 with (fail)
      apply wp_region_lit
      refine wl_k rfl (fun K hK => ?_); go_simp; refine hK _ ?_; clear hK K
      ((with_reducible apply wl_oneG); exact rfl; exact rfl; exact one3 z1); try simp only [Zy]
      refine wl_val rfl (ex_build 32 _ rfl (L := [(0, .int .i64 2), (2, .int .i64 b.seed)]) rfl (built32d _)) ?_
      try simp only [Zy]
      refine wl_new (fun ev w => ex_alloc32 rfl ev w) ?_
      intro W6 p7 hb6 hl6 h6
      refine wl_putG p7 (icells 2 (.slice none 0 0) b.seed (.slice none 0 0)) rfl rfl 32 _ h6 info32 rfl (icells_one _ _ _ _ _ _ _ _) ?_
      rw [put_noneA]
      have hbb := below_setRow hb6 (g := p7) hl6 (icells 2 (.slice none 0 0) b.seed (.slice none 0 0))
      have H7 := Lib.hid (hr_new (cs := icells 2 (.slice none 0 0) b.seed (.slice none 0 0)) h6)
      replace HG2 := Lib.hid (below_look hbb HG2.out)
      replace H6 := Lib.hid (below_look hbb H6.out)
      replace HRS := Lib.hid (HRS.out.below hbb)
      replace HRA := Lib.hid (HRA.out.below hbb)
      replace HB := Lib.hid (HB.out.trans (hbb.mono HB.out.size))
      have hp7 : w.heap.size + 1 < p7 := by omega
      clear hb6 h6 hbb hl6 z0 z1 z2 z3 z4 z5 hbS
      generalize W6.setRow p7 (icells 2 (.slice none 0 0) b.seed (.slice none 0 0)) = w6 at *
      go_upto_region 9 with (fail)
      apply wp_region_lit
      ((with_reducible apply wl_rowG); exact rfl; exact rfl; exact rowR H6.out); try simp only [Zy]
      refine wl_ck rfl (fun K hK => ?_); go_simp; refine ⟨_, _, ⟨rfl, rfl⟩, hK _ _ ⟨_, orderI_any _ b 0 (by have := HTN.out; omega) _ HRA.out, ?_⟩⟩; clear hK K; rintro e w7 ⟨v7, rfl, ho7, hb1⟩; refine ⟨_, rfl, ?_⟩; simp only [Zq]
      rw [List.length_map, ← HNP.out] at ho7
      obtain ⟨A7, c7, rfl⟩ := own_shape ho7
      have HK7 := Lib.hid (own_weak ho7 (Nat.zero_le _))
      replace HG2 := Lib.hid (below_look hb1 HG2.out)
      replace H6 := Lib.hid (below_look hb1 H6.out)
      replace H7 := Lib.hid (below_look hb1 H7.out)
      replace HRS := Lib.hid (HRS.out.below hb1)
      replace HB := Lib.hid (HB.out.trans (hb1.mono HB.out.size))
      clear hb1 ho7 HRA
      refine wl_k rfl (fun K hK => ?_); go_simp; refine hK _ ?_; clear hK K
      go_wp2_with fail
      have hp76 : p7 ≠ p6 := fun e => by have h1 := H7.out; rw [e, H6.out] at h1; simp only [Option.some.injEq, Obj.cells.injEq] at h1; exact absurd h1.2.1 (by decide)
      have HP0 : Hid (w7.ownsRow w7.heap.size 91 2 (.slice none 0 0) 0 (prow ((pairsT b.t).take 0))) := Lib.hid (own_nil _ _ _ _)
      go_loopw [9] (fun i wr => ∃ (j : Nat) (pj : Value), j ≤ np ∧ i = .int .i64 (j : Int) ∧ Hid (wr.ownsRow w7.heap.size 91 2 pj j (prow ((pairsT b.t).take j))) ∧ Hid (wr.heap[p7]? = some (.cells (icells 2 (.slice none 0 0) b.seed pj) 32 (0, 0))) ∧ Hid (Kept [p7] w7 wr)) (fun i _ => np - (intOf i).toNat)
      case atStart => exact ⟨0, _, by omega, rfl, HP0, H7, Lib.hid (Nm.Kept.refl _ _)⟩
      case round =>
        obtain ⟨j, pj, hj, rfl, HPJ, HP7, HW⟩ := hrel
        by_cases hlt : j < np
        · have hltI : (j : Int) < (np : Int) := by omega
          obtain ⟨⟨k, x⟩, hkx⟩ : ∃ e, (pairsT b.t)[j]? = some e := ⟨_, List.getElem?_eq_getElem (by rw [← HNP.out]; exact hlt)⟩
          obtain ⟨ii, hii, hfnd, hev⟩ := pairs_fnd HWF.out hkx
          have HKX := Lib.hid hkx
          have HFE := Lib.hid (And.intro hfnd hev)
          rw [← HTN.out] at hii
          have hiiI : (ii : Int) < (tn : Int) := by omega
          obtain ⟨pk, ck, ek', -⟩ := own_p HK7.out (by omega)
          have hA7 : A7 = some ⟨pk, 0, none⟩ := by cases ek'; rfl
          clear ek' hkx hfnd hev
          subst hA7
          have kc : w7.cell? ⟨pk, j, none⟩ = some (.string k) := by
            rw [HK7.out.cellAt j (by omega)]
            unfold strs
            rw [List.getElem?_map, List.getElem?_map, HKX.out]; rfl
          have vc : w7.cell? ⟨pv, ii, none⟩ = some (.int .i64 x) := by
            have h9 := HRS.out.v
            rw [h9.cellAt ii (by rw [← HTN.out]; omega)]
            unfold ints
            rw [List.getElem?_map, List.getElem?_map, pl_get (by rw [← HTN.out]; exact hii)]
            rw [← HFE.out.2]; rfl
          have z3 := (rc_cell H6.out).2.2.2.1
          have hnk : pk ∉ [p7] := by simp; exact own_neT HK7.out H7.out (by decide)
          have hnv : pv ∉ [p7] := by simp; exact own_neT HRS.out.v H7.out (by decide)
          have hn6 : p6 ∉ [p7] := by simp; omega
          have hSS : Kept [p7] w7 wr.drew := HW.out.below (Below.refl _ wr).drew
          go_upto_region 13 with (fail)
          refine wp_region_held_drew (S := Kept [p7] w7) mixed hSS (fun hS => ?_)
          clear hSS
          replace HPJ := Lib.hid (own_below HPJ.out (Below.refl _ wr).drew)
          replace HP7 : Hid (wr.drew.heap[p7]? = _) := Lib.hid HP7.out
          clear HW
          generalize wr.drew = wd at *
          refine hk3 (i := 0) rfl (by kernel_rfl) Zh hS rfl (fun K hK => ?_); go_simp; refine hK _ ?_; clear hK K; try simp only [Zq]
          refine hk3 (i := 2) rfl (by kernel_rfl) Zh hS rfl (fun K hK => ?_); go_simp; refine hK _ ?_; clear hK K; try simp only [Zq]
          refine hk3 (i := 3) rfl (by kernel_rfl) Zh hS rfl (fun K hK => ?_); go_simp; refine hK _ ?_; clear hK K; try simp only [Zq]
          refine hk3 (i := 4) rfl (by kernel_rfl) Zh hS rfl (fun K hK => ?_); go_simp; refine hK _ ?_; clear hK K; try simp only [Zq]
          (refine hv3 (i := 5) rfl (by kernel_rfl) Zg hS rfl (fun w' hw' => ex_one rfl (one9 (hw'.cell kc hnk))) ?_; try simp only [Zy])
          refine hk3 (i := 6) rfl (by kernel_rfl) Zh hS rfl (fun K hK => ?_); go_simp; refine hK _ ?_; clear hK K; try simp only [Zq]
          (refine hv3 (i := 7) rfl (by kernel_rfl) Zg hS rfl (fun w' hw' => ex_one rfl (one63 (hw'.cell z3 hn6))) ?_; try simp only [Zy])
          (refine hv3 (i := 8) rfl (by kernel_rfl) Zg hS rfl (fun w' hw' => ex_row rfl (rowR (hw'.look H6.out hn6))) ?_; try simp only [Zy])
          refine hk3 (i := 9) rfl (by kernel_rfl) Zh hS rfl (fun K hK => ?_); go_simp; refine hK _ ?_; clear hK K; try simp only [Zq]
          refine hk3 (i := 10) rfl (by kernel_rfl) Zh hS rfl (fun K hK => ?_); go_simp; refine hK _ ?_; clear hK K; try simp only [Zq]
          refine hk3 (i := 11) rfl (by kernel_rfl) Zh hS rfl (fun K hK => ?_); go_simp; refine hK _ ?_; clear hK K; try simp only [Zq]
          (refine hv3 (i := 12) rfl (by kernel_rfl) Zg hS rfl (fun w' hw' => ex_one rfl (one9 (hw'.cell kc hnk))) ?_; try simp only [Zy])
          refine ha_two (i := 1) (j := 13) (by kernel_rfl) ?_ ?_
          · have q3 := (ic_cell HP7.out).2.2.2
            refine sh_val (i := 1) rfl rfl (ex_one rfl (one30 q3)) hS ?_; try simp only [Zy]
            clear q3
            refine ha_call (i := 13) (by kernel_rfl) rfl rfl (fun K hK => ?_); go_simp; refine ⟨_, _, ⟨rfl, rfl⟩, hK _ _ ⟨_, findI_any _ b 0 k HWF.out (by have := HTN.out; omega) _ ⟨_, _, _, _, by rw [← HDD.out, HTN.out], (HRS.out.keptT hS H7.out (by decide) (by decide) (by decide)).weak (Nat.zero_le _)⟩, ?_⟩⟩; clear hK K; rintro e w8 ⟨rfl, hb1⟩; refine ⟨_, rfl, hS.below hb1, ?_⟩; replace hS := hS.below hb1; (replace HPJ := Lib.hid (own_below HPJ.out hb1); replace HP7 := Lib.hid (below_look hb1 HP7.out); clear hb1); try simp only [Zq]
            try simp only [Zy]
            try rw [HFE.out.1]
            refine hk3 (i := 14) rfl (by kernel_rfl) Zh hS rfl (fun K hK => ?_); go_simp; refine hK _ ?_; clear hK K; try simp only [Zq]
            (refine hv3 (i := 15) rfl (by kernel_rfl) Zg hS rfl (fun w' hw' => ex_one rfl (one3 (hw'.cell vc hnv))) ?_; try simp only [Zy])
            (refine hv3 (i := 16) rfl (by kernel_rfl) Zg hS rfl (fun w' hw' => ex_build 91 _ rfl (L := [(0, .string k), (1, .int .i64 x)]) rfl (built91 _ _)) ?_; try simp only [Zy])
            have hba := (Below.refl w8.heap.size w8).alloc (Nat.le_refl _) (.cells (pair k x) 91)
            have hSn := hS.below hba
            refine ha_do (i := 17) (by kernel_rfl) rfl rfl (ex_bs91 _ rfl rfl) hSn ?_; try simp only [Zy]
            replace hS := hSn
            clear hSn
            have HQ := Lib.hid (own_pair1 w8 k x)
            replace HPJ := Lib.hid (own_below HPJ.out hba)
            replace HP7 := Lib.hid (below_look hba HP7.out)
            clear hba
            generalize w8.alloc (.cells (pair k x) 91) = w9 at *
            generalize w8.heap.size = q8 at HQ ⊢
            obtain ⟨v9, wz, hr, hown, hgr⟩ := run_app30 30 HPJ.out HQ.out hS.size (show j ≤ 1000000 by omega) (show 1 ≤ 1000000 by omega)
            have hSn : Kept [p7] w7 wz := hS.grownNew hgr (fun q hq => (own_block HPJ.out hq).1)
            refine ha_do (i := 18) (by kernel_rfl) rfl rfl (ex_app _ _ rfl rfl rfl hr) hSn ?_; try simp only [Zy]
            have hp7z : wz.heap[p7]? = some (.cells (icells 2 (.slice none 0 0) b.seed pj) 32 (0, 0)) := (hgr.block p7 (heap_lt HP7.out) (fun e => by have := (own_block HPJ.out e.symm).1; have := heap_lt H7.out; omega)).trans HP7.out
            replace hS := hSn
            rw [← takeSnoc HKX.out] at hown
            clear hSn hr hgr HPJ HP7 HQ
            refine hk3 (i := 19) rfl (by kernel_rfl) Zh hS rfl (fun K hK => ?_); go_simp; refine hK _ ?_; clear hK K; try simp only [Zq]
            refine ha_storeC (i := 20) (by kernel_rfl) rfl rfl 30 _ _ rfl p7 3 v9 rfl rfl (by kernel_rfl) (own_one hown) (by rw [(ic_cell hp7z).2.2.2]; rfl) (frozen_of_row _ _ _ _ _ hp7z) (hS.setCell (by simp) 3 v9) (fun hS => ?_); try simp only [Zy]
            refine wpAnyH_done (by kernel_rfl) ?_ _
            have HPJ2 := Lib.hid (own_cellT hown hp7z (by decide) 3 v9)
            have HP72 : Hid ((wz.setCell ⟨p7, 3, none⟩ v9).heap[p7]? = some (.cells (icells 2 (.slice none 0 0) b.seed v9) 32 (0, 0))) := Lib.hid ((hs_new hp7z).trans rfl)
            have HW2 := Lib.hid hS
            clear hS hown hp7z kc vc z3
            go_wp2_with fail
            go_roundw
            case rel => exact ⟨j + 1, v9, by omega, by go_num, HPJ2, HP72, HW2⟩
            case measure => simp [intOf]; omega
          · refine sh_call (i := 13) rfl rfl (fun K hK => ?_); go_simp; refine ⟨_, _, ⟨rfl, rfl⟩, hK _ _ ⟨_, findI_any _ b 0 k HWF.out (by have := HTN.out; omega) _ ⟨_, _, _, _, by rw [← HDD.out, HTN.out], (HRS.out.keptT hS H7.out (by decide) (by decide) (by decide)).weak (Nat.zero_le _)⟩, ?_⟩⟩; clear hK K; rintro e w8 ⟨rfl, hb1⟩; refine ⟨_, rfl, hS.below hb1, ?_⟩; replace hS := hS.below hb1; (replace HPJ := Lib.hid (own_below HPJ.out hb1); replace HP7 := Lib.hid (below_look hb1 HP7.out); clear hb1); try simp only [Zq]
            try simp only [Zy]
            try rw [HFE.out.1]
            refine hk3 (i := 14) rfl (by kernel_rfl) Zh hS rfl (fun K hK => ?_); go_simp; refine hK _ ?_; clear hK K; try simp only [Zq]
            (refine hv3 (i := 15) rfl (by kernel_rfl) Zg hS rfl (fun w' hw' => ex_one rfl (one3 (hw'.cell vc hnv))) ?_; try simp only [Zy])
            (refine hv3 (i := 16) rfl (by kernel_rfl) Zg hS rfl (fun w' hw' => ex_build 91 _ rfl (L := [(0, .string k), (1, .int .i64 x)]) rfl (built91 _ _)) ?_; try simp only [Zy])
            refine ha_two (i := 1) (j := 17) (by kernel_rfl) ?_ ?_
            · have q3 := (ic_cell HP7.out).2.2.2
              refine sh_val (i := 1) rfl rfl (ex_one rfl (one30 q3)) hS ?_; try simp only [Zy]
              clear q3
              have hba := (Below.refl w8.heap.size w8).alloc (Nat.le_refl _) (.cells (pair k x) 91)
              have hSn := hS.below hba
              refine ha_do (i := 17) (by kernel_rfl) rfl rfl (ex_bs91 _ rfl rfl) hSn ?_; try simp only [Zy]
              replace hS := hSn
              clear hSn
              have HQ := Lib.hid (own_pair1 w8 k x)
              replace HPJ := Lib.hid (own_below HPJ.out hba)
              replace HP7 := Lib.hid (below_look hba HP7.out)
              clear hba
              generalize w8.alloc (.cells (pair k x) 91) = w9 at *
              generalize w8.heap.size = q8 at HQ ⊢
              obtain ⟨v9, wz, hr, hown, hgr⟩ := run_app30 30 HPJ.out HQ.out hS.size (show j ≤ 1000000 by omega) (show 1 ≤ 1000000 by omega)
              have hSn : Kept [p7] w7 wz := hS.grownNew hgr (fun q hq => (own_block HPJ.out hq).1)
              refine ha_do (i := 18) (by kernel_rfl) rfl rfl (ex_app _ _ rfl rfl rfl hr) hSn ?_; try simp only [Zy]
              have hp7z : wz.heap[p7]? = some (.cells (icells 2 (.slice none 0 0) b.seed pj) 32 (0, 0)) := (hgr.block p7 (heap_lt HP7.out) (fun e => by have := (own_block HPJ.out e.symm).1; have := heap_lt H7.out; omega)).trans HP7.out
              replace hS := hSn
              rw [← takeSnoc HKX.out] at hown
              clear hSn hr hgr HPJ HP7 HQ
              refine hk3 (i := 19) rfl (by kernel_rfl) Zh hS rfl (fun K hK => ?_); go_simp; refine hK _ ?_; clear hK K; try simp only [Zq]
              refine ha_storeC (i := 20) (by kernel_rfl) rfl rfl 30 _ _ rfl p7 3 v9 rfl rfl (by kernel_rfl) (own_one hown) (by rw [(ic_cell hp7z).2.2.2]; rfl) (frozen_of_row _ _ _ _ _ hp7z) (hS.setCell (by simp) 3 v9) (fun hS => ?_); try simp only [Zy]
              refine wpAnyH_done (by kernel_rfl) ?_ _
              have HPJ2 := Lib.hid (own_cellT hown hp7z (by decide) 3 v9)
              have HP72 : Hid ((wz.setCell ⟨p7, 3, none⟩ v9).heap[p7]? = some (.cells (icells 2 (.slice none 0 0) b.seed v9) 32 (0, 0))) := Lib.hid ((hs_new hp7z).trans rfl)
              have HW2 := Lib.hid hS
              clear hS hown hp7z kc vc z3
              go_wp2_with fail
              go_roundw
              case rel => exact ⟨j + 1, v9, by omega, by go_num, HPJ2, HP72, HW2⟩
              case measure => simp [intOf]; omega
            · have hba := (Below.refl w8.heap.size w8).alloc (Nat.le_refl _) (.cells (pair k x) 91)
              have hSn := hS.below hba
              refine sh_w (i := 17) rfl rfl (ex_bs91 _ rfl rfl) hSn ?_; try simp only [Zy]
              replace hS := hSn
              clear hSn
              have HQ := Lib.hid (own_pair1 w8 k x)
              replace HPJ := Lib.hid (own_below HPJ.out hba)
              replace HP7 := Lib.hid (below_look hba HP7.out)
              clear hba
              generalize w8.alloc (.cells (pair k x) 91) = w9 at *
              generalize w8.heap.size = q8 at HQ ⊢
              have q3 := (ic_cell HP7.out).2.2.2
              refine ha_do (i := 1) (by kernel_rfl) rfl rfl (ex_one rfl (one30 q3)) hS ?_; try simp only [Zy]
              clear q3
              obtain ⟨v9, wz, hr, hown, hgr⟩ := run_app30 30 HPJ.out HQ.out hS.size (show j ≤ 1000000 by omega) (show 1 ≤ 1000000 by omega)
              have hSn : Kept [p7] w7 wz := hS.grownNew hgr (fun q hq => (own_block HPJ.out hq).1)
              refine ha_do (i := 18) (by kernel_rfl) rfl rfl (ex_app _ _ rfl rfl rfl hr) hSn ?_; try simp only [Zy]
              have hp7z : wz.heap[p7]? = some (.cells (icells 2 (.slice none 0 0) b.seed pj) 32 (0, 0)) := (hgr.block p7 (heap_lt HP7.out) (fun e => by have := (own_block HPJ.out e.symm).1; have := heap_lt H7.out; omega)).trans HP7.out
              replace hS := hSn
              rw [← takeSnoc HKX.out] at hown
              clear hSn hr hgr HPJ HP7 HQ
              refine hk3 (i := 19) rfl (by kernel_rfl) Zh hS rfl (fun K hK => ?_); go_simp; refine hK _ ?_; clear hK K; try simp only [Zq]
              refine ha_storeC (i := 20) (by kernel_rfl) rfl rfl 30 _ _ rfl p7 3 v9 rfl rfl (by kernel_rfl) (own_one hown) (by rw [(ic_cell hp7z).2.2.2]; rfl) (frozen_of_row _ _ _ _ _ hp7z) (hS.setCell (by simp) 3 v9) (fun hS => ?_); try simp only [Zy]
              refine wpAnyH_done (by kernel_rfl) ?_ _
              have HPJ2 := Lib.hid (own_cellT hown hp7z (by decide) 3 v9)
              have HP72 : Hid ((wz.setCell ⟨p7, 3, none⟩ v9).heap[p7]? = some (.cells (icells 2 (.slice none 0 0) b.seed v9) 32 (0, 0))) := Lib.hid ((hs_new hp7z).trans rfl)
              have HW2 := Lib.hid hS
              clear hS hown hp7z kc vc z3
              go_wp2_with fail
              go_roundw
              case rel => exact ⟨j + 1, v9, by omega, by go_num, HPJ2, HP72, HW2⟩
              case measure => simp [intOf]; omega
        · obtain rfl : j = np := by omega
          have hg2 := HW.out.look HG2.out (show w.heap.size + 1 ∉ [p7] by simp; omega)
          have hbw := HW.out.toBelow (B := w.heap.size) HB.out.size (by simp; omega)
          have hb := HB.out.trans hbw
          replace HPJ : Hid (wr.ownsRow w7.heap.size 91 2 pj j (prow (pairsT b.t))) := Lib.hid (by have := HPJ.out; rwa [List.take_of_length_le (by rw [← HNP.out]; exact Nat.le_refl _)] at this)
          obtain ⟨Aj, cj, rfl⟩ := own_shape HPJ.out
          go_upto_region 14 with (fail)
          apply wp_region_lit
          ((with_reducible apply wl_rowG); exact rfl; exact rfl; exact rowIt HP7.out); try simp only [Zy]
          refine wl_putG (w.heap.size + 1) (icells 2 (.slice none 0 0) b.seed (.slice Aj j cj)) rfl rfl 32 _ hg2 info32 rfl (icells_one _ _ _ _ _ _ _ _) ?_
          rw [put_noneA]
          have HFIN := Lib.hid (hr_new (cs := icells 2 (.slice none 0 0) b.seed (.slice Aj j cj)) hg2)
          have HB9 := Lib.hid (below_setRow hb (g := w.heap.size + 1) (by omega) (icells 2 (.slice none 0 0) b.seed (.slice Aj j cj)))
          have HO9 := Lib.hid (own_weak (own_rowT HPJ.out hg2 (by decide) (icells 2 (.slice none 0 0) b.seed (.slice Aj j cj))) HB.out.size)
          clear hg2 hbw hb HPJ HP7 HW HK7 H6 H7 HRS HB
          go_wp2_with fail
          exact bodyPost_ret (res_item rfl _ _ (w.heap.size + 1) rfl HFIN.out) rfl ⟨_, rfl, ⟨_, _, by rw [HBF.out, HLN.out.2], by rw [HBF.out, HLN.out.1]; exact own_nil _ _ _ _, by rw [HBF.out, ← HNP.out]; exact HO9.out⟩, HB9.out⟩
theorem own_typed {w w' : World} {B e size n : Nat} {x : Value} {xs : List Value} (h : w.ownsRow B e size x n xs) (hs : ∀ (q : Nat) (cs : Array Value), w.heap[q]? = some (.cells cs e (0, 0)) → w'.heap[q]? = w.heap[q]?) : w'.ownsRow B e size x n xs :=
  own_same h (fun q _ hx => by obtain ⟨_, cc, hcc⟩ := own_block h hx; exact hs q cc hcc)
/-- the document's store keeps where its kinds of blocks do -/
theorem DAt.typed {w w' : World} {B : Nat} {v : Value} {A : Sto} (h : DAt w B v A) (hs : ∀ (q : Nat) (cs : Array Value) (e : TypeId), (e = 3 ∨ e = 105 ∨ e = 9 ∨ e = 4) → w.heap[q]? = some (.cells cs e (0, 0)) → w'.heap[q]? = w.heap[q]?) : DAt w' B v A := by
  obtain ⟨nv, bv, h1, h2, L, g1, g2, g3, g4⟩ := h
  refine ⟨nv, bv, h1, own_typed h2 (fun q cs hq => hs q cs 3 (by simp) hq), L, g1, g2, own_typed g3 (fun q cs hq => hs q cs 105 (by simp) hq), fun k cs b hk hb => ?_⟩
  obtain ⟨lv, kv, vv, uv, e, hr⟩ := g4 k cs b hk hb
  exact ⟨lv, kv, vv, uv, e, own_typed hr.l (fun q cs hq => hs q cs 9 (by simp) hq), own_typed hr.k (fun q cs hq => hs q cs 9 (by simp) hq), own_typed hr.v (fun q cs hq => hs q cs 3 (by simp) hq), own_typed hr.u (fun q cs hq => hs q cs 4 (by simp) hq), hr.ne⟩
theorem DAt.rowT {w : World} {B g : Nat} {v : Value} {A : Sto} {cs : Array Value} {t : TypeId} (h : DAt w B v A) (hg : w.heap[g]? = some (.cells cs t (0, 0))) (ht : ¬ (t = 3 ∨ t = 105 ∨ t = 9 ∨ t = 4)) (cs' : Array Value) : DAt (w.setRow g cs') B v A :=
  h.typed (fun q c e he hq => setRow_other _ _ _ _ (fun e2 => by
    subst e2
    rw [hg] at hq
    simp only [Option.some.injEq, Obj.cells.injEq] at hq
    exact ht (hq.2.1 ▸ he)))
theorem DAt.form {w : World} {B : Nat} {v : Value} {A : Sto} (h : DAt w B v A) : ∃ nv bv M sh, v = .agg (sc66 nv bv M sh) ∧ (sc66 nv bv M sh).all (·.oneCell') = true ∧ M = A.made ∧ sh = A.shared := by
  obtain ⟨nv, bv, h1, h2, h3⟩ := h
  obtain ⟨ys, hys⟩ := h3.own
  exact ⟨nv, bv, _, _, h1, sc66_one h2 hys _ _, rfl, rfl⟩
theorem DoIPost.at {v : Value} {A : Sto} {o : OpV} {w w' : World} {e : Ending} (hp : DoIPost v A o w e w') (h : DAt w 0 v A) : ∃ nv bv M sh, e = .returned (.tuple #[.agg (sc66 nv bv M sh), .int .i64 (refA A o)]) ∧ (sc66 nv bv M sh).all (·.oneCell') = true ∧ M = (doA A o).made ∧ sh = (doA A o).shared ∧ Below w.heap.size w w' ∧ DAt w' 0 (.agg (sc66 nv bv M sh)) (doA A o) := by
  obtain ⟨v', rfl, hb, hv⟩ := hp
  have hd : DAt w' 0 v' (doA A o) := by
    rcases hv with ⟨hr, rfl⟩ | ⟨hr, hd⟩
    · rw [show doA A o = A by unfold doA; rw [if_neg hr]]
      exact h.below hb
    · exact hd.weak (Nat.zero_le _)
  obtain ⟨nv, bv, M, sh, rfl, h1, h2, h3⟩ := hd.form
  exact ⟨nv, bv, M, sh, rfl, h1, h2, h3, hb, hd⟩
end Go.Proofs.Ytbhdgeoljlhmcaa
