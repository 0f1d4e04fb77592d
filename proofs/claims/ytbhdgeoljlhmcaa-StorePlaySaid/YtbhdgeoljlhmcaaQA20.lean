/- A name's item, by the document. A script played, by the document. Items held beside a store, fields of an operation. The law StorePlay, walked. -/
import Derived.Outline
import Derived.Test.YtbhdgeoljlhmcaaQA19
import Derived.Test.YtbhdgeoljlhmcaaQA11
namespace Go.Proofs.Ytbhdgeoljlhmcaa
open Go.RowKit Go.Proofs.Ytbhdgeoljlhmcaa.Nm Go.Proofs.Ytbhdgeoljlhmcaa.St
set_option linter.unusedSimpArgs false
theorem built91 (k : ByteArray) (v : Int) : Try.prog.built 91 [(0, .string k), (1, .int .i64 v)] = some (pair k v) := by kernel_rfl
theorem built32a (A : Option Addr) (n c : Nat) : Try.prog.built 32 [(0, .int .i64 1), (1, .slice A n c)] = some (icells 1 (.slice A n c) 0 (.slice none 0 0)) := by kernel_rfl
theorem built32d (s : Int) : Try.prog.built 32 [(0, .int .i64 2), (2, .int .i64 s)] = some (icells 2 (.slice none 0 0) s (.slice none 0 0)) := by kernel_rfl
theorem own_pair1 (w : World) (k : ByteArray) (v : Int) : (w.alloc (.cells (pair k v) 91)).ownsRow w.heap.size 91 2 (.slice (some ⟨w.heap.size, 0, none⟩) 1 1) 1 (prow [(k, v)]) :=
  ⟨rfl, Or.inr ⟨w.heap.size, 1, pair k v, rfl, Nat.le_refl _, ha_new rfl, by omega, by unfold maxLen; omega, rfl, rfl⟩⟩
theorem own_keptT {w w' : World} {B e size n p : Nat} {x : Value} {xs : List Value} {cs : Array Value} {t : TypeId} (h : w.ownsRow B e size x n xs) (hk : Kept [p] w w') (hp : w.heap[p]? = some (.cells cs t (0, 0))) (he : e ≠ t) : w'.ownsRow B e size x n xs :=
  own_same h (fun q hq hx => hk.block q hq (fun hm => by
    simp at hm; subst hm
    obtain ⟨_, cc, hcc⟩ := own_block h hx
    rw [hp] at hcc
    simp only [Option.some.injEq, Obj.cells.injEq] at hcc
    exact he hcc.2.1.symm))
theorem RSl.keptT {w w' : World} {B p : Nat} {lv kv vv uv : Value} {l : List ByteArray} {t : Tab} {cs : Array Value} {ty : TypeId} (h : RSl w B lv kv vv uv l t) (hk : Kept [p] w w') (hp : w.heap[p]? = some (.cells cs ty (0, 0))) (h9 : 9 ≠ ty) (h3 : 3 ≠ ty) (h4 : 4 ≠ ty) : RSl w' B lv kv vv uv l t :=
  ⟨own_keptT h.l hk hp h9, own_keptT h.k hk hp h9, own_keptT h.v hk hp h3, own_keptT h.u hk hp h4, h.ne⟩
theorem pairs_fnd {seed : Int} {t : Tab} (hw : t = [] ∨ Wf (HH seed) t) {j : Nat} {k : ByteArray} {v : Int} (h : (pairsT t)[j]? = some (k, v)) : ∃ i : Nat, i < t.length ∧ fnd seed t k = (i : Int) ∧ ev (pl t i) = v := by
  have hm : (k, v) ∈ ents t := List.mem_of_getElem? h
  obtain ⟨i, hi, hp⟩ := has_mem.2 hm
  exact ⟨i, hi, fnd_at hw hi (by unfold eb; rw [hp]; rfl) (by unfold ek; rw [hp]), by unfold Go.Proofs.Ytbhdgeoljlhmcaa.ev; rw [hp]⟩
theorem Nm.Kept.grownNew {D : List Nat} {row : Option Nat} {W w w' : World} (h : Kept D W w) (hg : w.grownBy w' row) (hm : ∀ p, row = some p → W.heap.size ≤ p) : Kept D W w' :=
  ⟨Nat.le_trans h.1 hg.size, fun k hk hp => by rw [hg.block k (by have := h.1; omega) (fun e => by have := hm k e.symm; omega)]; exact h.2 k hk hp, hg.os.trans h.os, hg.tape.trans h.tape, hg.output.trans h.output⟩
theorem own_neT {w : World} {B e s n p g c : Nat} {xs : List Value} {cs : Array Value} {t : TypeId} (h : w.ownsRow B e s (.slice (some ⟨p, 0, none⟩) n c) n xs) (hg : w.heap[g]? = some (.cells cs t (0, 0))) (he : e ≠ t) : p ≠ g := fun e2 => by
  subst e2
  obtain ⟨_, d1, hd1⟩ := own_block h (q := p) rfl
  rw [hg] at hd1; simp only [Option.some.injEq, Obj.cells.injEq] at hd1; exact he hd1.2.1.symm
set_option maxHeartbeats 4000000 in
set_option maxRecDepth 100000 in
theorem ItemI_yes (v : Value) (A : Sto) (B : Nat) (hA : Good A) (f : Nat) (hf : (f : Int) < 8) (w : World) (h : DAt w B v A) :
    Calls Try.prog 40 #[v, .int .i64 (f : Int)] w fun e w' => ∃ v', e = .returned (.tuple #[v', .int .i64 0]) ∧ ItemAt w' w.heap.size v' (A.buf (f : Int)) ∧ Below w.heap.size w w' := by
  have HA := Lib.hid hA
  have hf8 : f < 8 := by omega
  have hnm : isNm (f : Int) = true := by unfold isNm; simp; omega
  clear hA
  obtain ⟨nv, bv, rfl, hn, hbs⟩ := h
  obtain ⟨M, hM⟩ : ∃ M, M = A.made := ⟨_, rfl⟩
  obtain ⟨sh, hsh⟩ : ∃ sh, sh = A.shared := ⟨_, rfl⟩
  rw [← hM, ← hsh]
  have HN := Lib.hid hn
  have HBS := Lib.hid hbs
  clear hn hbs hM hsh
  go_enter Try.func40, Try.ntmps40
  go_upto_region 1 with (fail)
  refine wp_world (fun W => Below w.heap.size w W ∧ W.heap[w.heap.size]? = some (.cells (sc66 nv bv M sh) 66 (0, 0)) ∧ W.heap[w.heap.size + 1]? = some (.cells (icells 0 (.slice none 0 0) 0 (.slice none 0 0)) 32 (0, 0))) ⟨((Below.refl w.heap.size w).alloc (Nat.le_refl _) _).alloc (by simp) _, ha_old (ha_new rfl), ha_new (by simp)⟩ ?_
  rintro W ⟨hb, g1, g2⟩
  replace HN := Lib.hid (own_below HN.out hb)
  replace HBS := Lib.hid (HBS.out.below hb)
  apply wp_region_lit
  refine wl_k rfl (fun K hK => ?_); go_simp; refine hK _ ?_; clear hK K
  refine wl_ck rfl (fun K hK => ?_); go_simp; refine ⟨_, _, ⟨rfl, rfl⟩, hK _ _ ⟨_, NameI_any _ _, ?_⟩⟩; clear hK K; rintro e w1 ⟨rfl, rfl⟩; refine ⟨_, rfl, ?_⟩; simp only [Zp, Zz, Zs]
  rw [hnm]
  refine wl_k rfl (fun K hK => ?_); go_simp; refine hK _ ?_; clear hK K
  obtain ⟨p, c, rfl, -⟩ := own_p HN.out (by omega)
  have hnc := own_name HN.out hf8 (id_names HA.out (n := (f : Int)) (by omega) hf)
  obtain ⟨a0, a1, -, -⟩ := s66_cell g1
  cases hid : A.id (f : Int) with
  | none =>
    rw [hid, show numN none = -1 from rfl] at hnc
    go_upto_region 4 with (fail)
    apply wp_region_lit
    refine wl_val rfl (ex_build 32 _ rfl (L := []) rfl built32_0) ?_
    try simp only [Za, Zb, Zc, Zp, Zz, Zs]
    refine wl_putG (w.heap.size + 1) (icells 0 (.slice none 0 0) 0 (.slice none 0 0)) rfl rfl 32 _ g2 info32 rfl (icells_one _ _ _ _ _ _ _ _) ?_
    rw [put_noneA]
    have HFIN := Lib.hid (hr_new (cs := icells 0 (.slice none 0 0) 0 (.slice none 0 0)) g2)
    have HB := Lib.hid (below_setRow hb (g := w.heap.size + 1) (by omega) (icells 0 (.slice none 0 0) 0 (.slice none 0 0)))
    clear g1 g2 hb hnc a0 a1
    go_wp2_with fail
    exact bodyPost_ret (res_item rfl _ _ (w.heap.size + 1) rfl HFIN.out) rfl ⟨_, rfl, by rw [buf_none hid]; exact itemAt_no _ _, HB.out⟩
  | some i =>
    rw [hid, show numN (some i) = (i : Int) from rfl] at hnc
    have hil := HA.out.there f i (by have := id_names HA.out (n := (f : Int)) (by omega) hf; rwa [hid] at this)
    obtain ⟨b, hbi⟩ : ∃ b, A.bufs[i]? = some b := ⟨_, List.getElem?_eq_getElem hil⟩
    have HBF := Lib.hid (buf_of hid hbi)
    have HGB := Lib.hid (HA.out.bufs i b hbi)
    obtain ⟨q, cap, cur, rfl, -, hcur, hall⟩ := HBS.out.cells (by omega)
    obtain ⟨lv, kv, vv, uv, hx, -, hRS, -⟩ := hall i b hbi
    have HX := Lib.hid hx
    have HRS := Lib.hid hRS
    obtain ⟨n2, hn2⟩ : ∃ n2, n2 = A.bufs.length := ⟨_, rfl⟩
    rw [← hn2] at a1 hil
    have hilI : (i : Int) < (n2 : Int) := by omega
    have hi0 : ¬ (i : Int) < 0 := by omega
    have HG2 := Lib.hid g2
    have HB := Lib.hid hb
    have LG := heap_lt g2
    clear hall hx hRS hbi hid hn2 g1 g2 hb HN HBS
    go_upto_region 5 with (fail)
    refine wp_region_held_drew (S := Kept [] W) mixed (Kept.drew [] W) (fun hS => ?_)
    refine hk3 (i := 0) rfl (by kernel_rfl) (fun _ _ _ _ h => h) hS rfl (fun K hK => ?_); go_simp; refine hK _ ?_; clear hK K; try simp only [Zp, Zz, Zs]
    refine hv3 (i := 1) rfl (by kernel_rfl) (fun _ _ _ h => h) hS rfl (fun w' hw' => ex_one rfl (one64 (hw'.cell a1 (by simp <;> omega)))) ?_; try simp only [Zp, Zz, Zs]
    refine hk3 (i := 2) rfl (by kernel_rfl) (fun _ _ _ _ h => h) hS rfl (fun K hK => ?_); go_simp; refine hK _ ?_; clear hK K; try simp only [Zp, Zz, Zs]
    refine hv3 (i := 3) rfl (by kernel_rfl) (fun _ _ _ h => h) hS rfl (fun w' hw' => ex_one rfl (one63 (hw'.cell a0 (by simp <;> omega)))) ?_; try simp only [Zp, Zz, Zs]
    refine hk3 (i := 4) rfl (by kernel_rfl) (fun _ _ _ _ h => h) hS rfl (fun K hK => ?_); go_simp; refine hK _ ?_; clear hK K; try simp only [Zp, Zz, Zs]
    refine hk3 (i := 5) rfl (by kernel_rfl) (fun _ _ _ _ h => h) hS rfl (fun K hK => ?_); go_simp; refine hK _ ?_; clear hK K; try simp only [Zp, Zz, Zs]
    refine hv3 (i := 6) rfl (by kernel_rfl) (fun _ _ _ h => h) hS rfl (fun w' hw' => ex_one rfl (one3 (hw'.cell hnc (by simp <;> omega)))) ?_; try simp only [Zp, Zz, Zs]
    refine hk3 (i := 7) rfl (by kernel_rfl) (fun _ _ _ _ h => h) hS rfl (fun K hK => ?_); go_simp; refine hK _ ?_; clear hK K; try simp only [Zp, Zz, Zs]
    (refine hv3 (i := 8) rfl (by kernel_rfl) (fun _ _ _ h => h) hS rfl (fun w' hw' => ex_row rfl ((fun h => row_mid h HX.out u105 rfl rfl info105) (hw'.look hcur (by simp)))) ?_; try simp only [Za, Zb, Zc, Zp, Zz, Zs])
    have hb1 := (Below.refl W.drew.heap.size W.drew).alloc (Nat.le_refl _) (.cells noR 105)
    have hSn := hS.below hb1
    have hal : (W.drew.alloc (.cells noR 105)).heap[W.drew.heap.size]? = some (.cells noR 105 (0, 0)) := ha_new rfl
    have hp6 : W.heap.size ≤ W.drew.heap.size := hS.size
    refine ha_do (i := 9) (by kernel_rfl) rfl rfl (ex_alloc105 rfl _ _) hSn ?_; try simp only [Za, Zb, Zc, Zp, Zz, Zs]
    replace hS := hSn
    clear hSn hb1
    generalize W.drew.alloc (.cells noR 105) = w4 at *
    generalize W.drew.heap.size = p6 at hal hp6 ⊢
    refine ha_store (i := 10) (by kernel_rfl) rfl rfl 105 _ _ rfl p6 (rcells lv b.seed kv vv uv (isD b)) rfl rfl 105 _ hal info105 rfl (HRS.out.one b.seed (isD b)) (hS.setNew hp6 _) (fun hS => ?_); try simp only [Za, Zb, Zc, Zp, Zz, Zs]
    refine wpAnyH_done (by kernel_rfl) ?_ _
    rw [put_noneA]
    have hbw := hS.toBelow (Nat.le_refl _) (by simp)
    have H6 := Lib.hid (hr_new (cs := rcells lv b.seed kv vv uv (isD b)) hal)
    replace HG2 := Lib.hid (below_look hbw HG2.out)
    replace HRS := Lib.hid (HRS.out.below hbw)
    have hWs := HB.out.size
    replace HB := Lib.hid (HB.out.trans (hbw.mono HB.out.size))
    have hbS := hbw.size
    clear hS hal hbw hcur HX a0 a1 hnc hilI hil hi0
    generalize w4.setRow p6 (rcells lv b.seed kv vv uv (isD b)) = w5 at *
    have HRA : Hid (RAt w5 0 (.agg (rcells lv b.seed kv vv uv (isD b))) b) := Lib.hid ⟨_, _, _, _, rfl, HRS.out.weak (Nat.zero_le _)⟩
    obtain ⟨dd, hdd⟩ : ∃ dd, dd = isD b := ⟨_, rfl⟩
    rw [← hdd] at H6 HRA ⊢
    have HDD := Lib.hid hdd
    clear hdd
    obtain ⟨z0, z1, z2, z3, z4, z5⟩ := rc_cell H6.out
    cases dd with
    | false =>
      have hkd : b.kd = 1 := by
        have h1 := HDD.out
        rcases HGB.out with h | h
        · exact h.1
        · unfold isD at h1; rw [h.1] at h1; simp at h1
      obtain ⟨h1, h2, h3⟩ : b.seed = 0 ∧ b.t = [] ∧ b.l.length ≤ 100 := by
        rcases HGB.out with h | h
        · exact h.2
        · rw [hkd] at h; simp at h
      have HPL := Lib.hid (And.intro hkd (And.intro h1 h2))
      obtain ⟨A1, c1, rfl, hs1⟩ := own_str HRS.out.l rfl
      have HS1 := Lib.hid hs1
      obtain ⟨L, hL⟩ : ∃ L, L = b.l.length := ⟨_, rfl⟩
      rw [← hL] at z0 HS1 h3
      have HL := Lib.hid hL
      clear hs1 hL hkd h1 h2
      go_upto_region 7 with (fail)
      apply wp_region_lit
      refine wl_k rfl (fun K hK => ?_); go_simp; refine hK _ ?_; clear hK K
      ((with_reducible apply wl_oneG); exact rfl; exact rfl; exact one29 z0); try simp only [Za, Zb, Zc, Zp, Zz, Zs]
      refine wl_ck rfl (fun K hK => ?_); go_simp; refine ⟨_, _, ⟨rfl, rfl⟩, hK _ _ ⟨_, CopyStrings_any A1 L c1 b.l (by omega) _ HS1.out, ?_⟩⟩; clear hK K; rintro e w6 ⟨v', rfl, ho, hb1⟩; refine ⟨_, rfl, ?_⟩; simp only [Zp, Zz, Zs]
      obtain ⟨A3, c3, rfl⟩ := own_shape ho
      have HO := Lib.hid (own_weak ho (show w.heap.size ≤ w5.heap.size by omega))
      replace HG2 := Lib.hid (below_look hb1 HG2.out)
      replace HB := Lib.hid (HB.out.trans (hb1.mono HB.out.size))
      clear hb1 ho
      refine wl_val rfl (ex_build 32 _ rfl (L := [(0, .int .i64 1), (1, .slice A3 L c3)]) rfl (built32a _ _ _)) ?_
      try simp only [Za, Zb, Zc, Zp, Zz, Zs]
      refine wl_putG (w.heap.size + 1) (icells 1 (.slice A3 L c3) 0 (.slice none 0 0)) rfl rfl 32 _ HG2.out info32 rfl (icells_one _ _ _ _ _ _ _ _) ?_
      rw [put_noneA]
      have HFIN := Lib.hid (hr_new (cs := icells 1 (.slice A3 L c3) 0 (.slice none 0 0)) HG2.out)
      have HB9 := Lib.hid (below_setRow HB.out (g := w.heap.size + 1) (by omega) (icells 1 (.slice A3 L c3) 0 (.slice none 0 0)))
      have HO9 := Lib.hid (own_rowT HO.out HG2.out (by decide) (icells 1 (.slice A3 L c3) 0 (.slice none 0 0)))
      clear z0 z1 z2 z3 z4 z5 HO HG2 HRA HRS H6 HB
      go_wp2_with fail
      exact bodyPost_ret (res_item rfl _ _ (w.heap.size + 1) rfl HFIN.out) rfl ⟨_, rfl, ⟨_, _, by rw [HBF.out, HPL.out.1, HPL.out.2.1], by rw [HBF.out, ← HL.out]; exact HO9.out, by rw [HBF.out, HPL.out.2.2]; exact own_nil _ _ _ _⟩, HB9.out⟩
    | true =>
      have hkd : b.kd = 2 := by
        have h1 := HDD.out
        unfold isD at h1
        simpa using h1.symm
      obtain ⟨-, -, hl0, hwf, hsh, ht4, ht264, hcn⟩ := HGB.out.dict hkd
      have HLN := Lib.hid (And.intro hl0 hkd)
      have HWF : Hid (b.t = [] ∨ Wf (HH b.seed) b.t) := Lib.hid (Or.inr hwf)
      obtain ⟨A1, c1, A2, c2, A3, c3, A4, c4, rfl, rfl, rfl, rfl⟩ := HRS.out.shapes
      obtain ⟨pv, cv, ev', -⟩ := own_p HRS.out.v (by omega)
      obtain ⟨tn, htn⟩ : ∃ n, n = b.t.length := ⟨_, rfl⟩
      rw [← htn] at z2 z3 z4 HRA H6 ev' ht4 ht264
      have hA3 : A3 = some ⟨pv, 0, none⟩ := by cases ev'; rfl
      subst hA3
      have HTN := Lib.hid htn
      obtain ⟨np, hnp⟩ : ∃ n, n = (pairsT b.t).length := ⟨_, rfl⟩
      have hnpb : np ≤ 264 := by have := pairsT_le b.t; omega
      have HNP := Lib.hid hnp
      clear hl0 hkd hwf hsh hcn ev' htn hnp
      go_upto_region 8 with (fail)
      apply wp_region_lit
      refine wl_k rfl (fun K hK => ?_); go_simp; refine hK _ ?_; clear hK K
      ((with_reducible apply wl_oneG); exact rfl; exact rfl; exact one3 z1); try simp only [Za, Zb, Zc, Zp, Zz, Zs]
      refine wl_val rfl (ex_build 32 _ rfl (L := [(0, .int .i64 2), (2, .int .i64 b.seed)]) rfl (built32d _)) ?_
      try simp only [Za, Zb, Zc, Zp, Zz, Zs]
      refine wl_new (fun ev w => ex_alloc32 rfl ev w) ?_
      intro W6 p7 hb6 hl6 h6
      refine wl_putG p7 (icells 2 (.slice none 0 0) b.seed (.slice none 0 0)) rfl rfl 32 _ h6 info32 rfl (icells_one _ _ _ _ _ _ _ _) ?_
      rw [put_noneA]
      have hbb := below_setRow hb6 (g := p7) hl6 (icells 2 (.slice none 0 0) b.seed (.slice none 0 0))
      have H7 := Lib.hid (hr_new (cs := icells 2 (.slice none 0 0) b.seed (.slice none 0 0)) h6)
      replace HG2 := Lib.hid (below_look hbb HG2.out)
      replace H6 := Lib.hid (below_look hbb H6.out)
      replace HRS := Lib.hid (HRS.out.below hbb)
      replace HRA := Lib.hid (HRA.out.below hbb)
      replace HB := Lib.hid (HB.out.trans (hbb.mono HB.out.size))
      have hp7 : w.heap.size + 1 < p7 := by omega
      clear hb6 h6 hbb hl6 z0 z1 z2 z3 z4 z5 hbS
      generalize W6.setRow p7 (icells 2 (.slice none 0 0) b.seed (.slice none 0 0)) = w6 at *
      go_upto_region 9 with (fail)
      apply wp_region_lit
      ((with_reducible apply wl_rowG); exact rfl; exact rfl; exact rowR H6.out); try simp only [Za, Zb, Zc, Zp, Zz, Zs]
      refine wl_ck rfl (fun K hK => ?_); go_simp; refine ⟨_, _, ⟨rfl, rfl⟩, hK _ _ ⟨_, orderI_any _ b 0 (by have := HTN.out; omega) _ HRA.out, ?_⟩⟩; clear hK K; rintro e w7 ⟨v7, rfl, ho7, hb1⟩; refine ⟨_, rfl, ?_⟩; simp only [Zp, Zz, Zs]
      rw [List.length_map, ← HNP.out] at ho7
      obtain ⟨A7, c7, rfl⟩ := own_shape ho7
      have HK7 := Lib.hid (own_weak ho7 (Nat.zero_le _))
      replace HG2 := Lib.hid (below_look hb1 HG2.out)
      replace H6 := Lib.hid (below_look hb1 H6.out)
      replace H7 := Lib.hid (below_look hb1 H7.out)
      replace HRS := Lib.hid (HRS.out.below hb1)
      replace HB := Lib.hid (HB.out.trans (hb1.mono HB.out.size))
      clear hb1 ho7 HRA
      refine wl_k rfl (fun K hK => ?_); go_simp; refine hK _ ?_; clear hK K
      go_wp2_with fail
      have hp76 : p7 ≠ p6 := fun e => by have h1 := H7.out; rw [e, H6.out] at h1; simp only [Option.some.injEq, Obj.cells.injEq] at h1; exact absurd h1.2.1 (by decide)
      have HP0 : Hid (w7.ownsRow w7.heap.size 91 2 (.slice none 0 0) 0 (prow ((pairsT b.t).take 0))) := Lib.hid (own_nil _ _ _ _)
      go_loopw [9] (fun i wr => ∃ (j : Nat) (pj : Value), j ≤ np ∧ i = .int .i64 (j : Int) ∧ Hid (wr.ownsRow w7.heap.size 91 2 pj j (prow ((pairsT b.t).take j))) ∧ Hid (wr.heap[p7]? = some (.cells (icells 2 (.slice none 0 0) b.seed pj) 32 (0, 0))) ∧ Hid (Kept [p7] w7 wr)) (fun i _ => np - (intOf i).toNat)
      case atStart => exact ⟨0, _, by omega, rfl, HP0, H7, Lib.hid (Nm.Kept.refl _ _)⟩
      case round =>
        obtain ⟨j, pj, hj, rfl, HPJ, HP7, HW⟩ := hrel
        by_cases hlt : j < np
        · have hltI : (j : Int) < (np : Int) := by omega
          obtain ⟨⟨k, x⟩, hkx⟩ : ∃ e, (pairsT b.t)[j]? = some e := ⟨_, List.getElem?_eq_getElem (by rw [← HNP.out]; exact hlt)⟩
          obtain ⟨ii, hii, hfnd, hev⟩ := pairs_fnd HWF.out hkx
          have HKX := Lib.hid hkx
          have HFE := Lib.hid (And.intro hfnd hev)
          rw [← HTN.out] at hii
          have hiiI : (ii : Int) < (tn : Int) := by omega
          obtain ⟨pk, ck, ek', -⟩ := own_p HK7.out (by omega)
          have hA7 : A7 = some ⟨pk, 0, none⟩ := by cases ek'; rfl
          clear ek' hkx hfnd hev
          subst hA7
          have kc : w7.cell? ⟨pk, j, none⟩ = some (.string k) := by
            rw [HK7.out.cellAt j (by omega)]
            unfold strs
            rw [List.getElem?_map, List.getElem?_map, HKX.out]; rfl
          have vc : w7.cell? ⟨pv, ii, none⟩ = some (.int .i64 x) := by
            have h9 := HRS.out.v
            rw [h9.cellAt ii (by rw [← HTN.out]; omega)]
            unfold ints
            rw [List.getElem?_map, List.getElem?_map, pl_get (by rw [← HTN.out]; exact hii)]
            rw [← HFE.out.2]; rfl
          have z3 := (rc_cell H6.out).2.2.2.1
          have hnk : pk ∉ [p7] := by simp; exact own_neT HK7.out H7.out (by decide)
          have hnv : pv ∉ [p7] := by simp; exact own_neT HRS.out.v H7.out (by decide)
          have hn6 : p6 ∉ [p7] := by simp; omega
          have hSS : Kept [p7] w7 wr.drew := HW.out.below (Below.refl _ wr).drew
          go_upto_region 13 with (fail)
          refine wp_region_held_drew (S := Kept [p7] w7) mixed hSS (fun hS => ?_)
          clear hSS
          replace HPJ := Lib.hid (own_below HPJ.out (Below.refl _ wr).drew)
          replace HP7 : Hid (wr.drew.heap[p7]? = _) := Lib.hid HP7.out
          clear HW
          generalize wr.drew = wd at *
          refine hk3 (i := 0) rfl (by kernel_rfl) (fun _ _ _ _ h => h) hS rfl (fun K hK => ?_); go_simp; refine hK _ ?_; clear hK K; try simp only [Zp, Zz, Zs]
          refine hk3 (i := 2) rfl (by kernel_rfl) (fun _ _ _ _ h => h) hS rfl (fun K hK => ?_); go_simp; refine hK _ ?_; clear hK K; try simp only [Zp, Zz, Zs]
          refine hk3 (i := 3) rfl (by kernel_rfl) (fun _ _ _ _ h => h) hS rfl (fun K hK => ?_); go_simp; refine hK _ ?_; clear hK K; try simp only [Zp, Zz, Zs]
          refine hk3 (i := 4) rfl (by kernel_rfl) (fun _ _ _ _ h => h) hS rfl (fun K hK => ?_); go_simp; refine hK _ ?_; clear hK K; try simp only [Zp, Zz, Zs]
          (refine hv3 (i := 5) rfl (by kernel_rfl) (fun _ _ _ h => h) hS rfl (fun w' hw' => ex_one rfl (one9 (hw'.cell kc hnk))) ?_; try simp only [Za, Zb, Zc, Zp, Zz, Zs])
          refine hk3 (i := 6) rfl (by kernel_rfl) (fun _ _ _ _ h => h) hS rfl (fun K hK => ?_); go_simp; refine hK _ ?_; clear hK K; try simp only [Zp, Zz, Zs]
          (refine hv3 (i := 7) rfl (by kernel_rfl) (fun _ _ _ h => h) hS rfl (fun w' hw' => ex_one rfl (one63 (hw'.cell z3 hn6))) ?_; try simp only [Za, Zb, Zc, Zp, Zz, Zs])
          (refine hv3 (i := 8) rfl (by kernel_rfl) (fun _ _ _ h => h) hS rfl (fun w' hw' => ex_row rfl (rowR (hw'.look H6.out hn6))) ?_; try simp only [Za, Zb, Zc, Zp, Zz, Zs])
          refine hk3 (i := 9) rfl (by kernel_rfl) (fun _ _ _ _ h => h) hS rfl (fun K hK => ?_); go_simp; refine hK _ ?_; clear hK K; try simp only [Zp, Zz, Zs]
          refine hk3 (i := 10) rfl (by kernel_rfl) (fun _ _ _ _ h => h) hS rfl (fun K hK => ?_); go_simp; refine hK _ ?_; clear hK K; try simp only [Zp, Zz, Zs]
          refine hk3 (i := 11) rfl (by kernel_rfl) (fun _ _ _ _ h => h) hS rfl (fun K hK => ?_); go_simp; refine hK _ ?_; clear hK K; try simp only [Zp, Zz, Zs]
          (refine hv3 (i := 12) rfl (by kernel_rfl) (fun _ _ _ h => h) hS rfl (fun w' hw' => ex_one rfl (one9 (hw'.cell kc hnk))) ?_; try simp only [Za, Zb, Zc, Zp, Zz, Zs])
          refine ha_two (i := 1) (j := 13) (by kernel_rfl) ?_ ?_
          · have q3 := (ic_cell HP7.out).2.2.2
            refine sh_val (i := 1) rfl rfl (ex_one rfl (one30 q3)) hS ?_; try simp only [Za, Zb, Zc, Zp, Zz, Zs]
            clear q3
            refine ha_call (i := 13) (by kernel_rfl) rfl rfl (fun K hK => ?_); go_simp; refine ⟨_, _, ⟨rfl, rfl⟩, hK _ _ ⟨_, findI_any _ b 0 k HWF.out (by have := HTN.out; omega) _ ⟨_, _, _, _, by rw [← HDD.out, HTN.out], (HRS.out.keptT hS H7.out (by decide) (by decide) (by decide)).weak (Nat.zero_le _)⟩, ?_⟩⟩; clear hK K; rintro e w8 ⟨rfl, hb1⟩; refine ⟨_, rfl, hS.below hb1, ?_⟩; replace hS := hS.below hb1; (replace HPJ := Lib.hid (own_below HPJ.out hb1); replace HP7 := Lib.hid (below_look hb1 HP7.out); clear hb1); try simp only [Zp, Zz, Zs]
            try simp only [Za, Zb, Zc, Zp, Zz, Zs]
            try rw [HFE.out.1]
            refine hk3 (i := 14) rfl (by kernel_rfl) (fun _ _ _ _ h => h) hS rfl (fun K hK => ?_); go_simp; refine hK _ ?_; clear hK K; try simp only [Zp, Zz, Zs]
            (refine hv3 (i := 15) rfl (by kernel_rfl) (fun _ _ _ h => h) hS rfl (fun w' hw' => ex_one rfl (one3 (hw'.cell vc hnv))) ?_; try simp only [Za, Zb, Zc, Zp, Zz, Zs])
            (refine hv3 (i := 16) rfl (by kernel_rfl) (fun _ _ _ h => h) hS rfl (fun w' hw' => ex_build 91 _ rfl (L := [(0, .string k), (1, .int .i64 x)]) rfl (built91 _ _)) ?_; try simp only [Za, Zb, Zc, Zp, Zz, Zs])
            have hba := (Below.refl w8.heap.size w8).alloc (Nat.le_refl _) (.cells (pair k x) 91)
            have hSn := hS.below hba
            refine ha_do (i := 17) (by kernel_rfl) rfl rfl (ex_bs91 _ rfl rfl) hSn ?_; try simp only [Za, Zb, Zc, Zp, Zz, Zs]
            replace hS := hSn
            clear hSn
            have HQ := Lib.hid (own_pair1 w8 k x)
            replace HPJ := Lib.hid (own_below HPJ.out hba)
            replace HP7 := Lib.hid (below_look hba HP7.out)
            clear hba
            generalize w8.alloc (.cells (pair k x) 91) = w9 at *
            generalize w8.heap.size = q8 at HQ ⊢
            obtain ⟨v9, wz, hr, hown, hgr⟩ := run_app30 30 HPJ.out HQ.out hS.size (show j ≤ 1000000 by omega) (show 1 ≤ 1000000 by omega)
            have hSn : Kept [p7] w7 wz := hS.grownNew hgr (fun q hq => (own_block HPJ.out hq).1)
            refine ha_do (i := 18) (by kernel_rfl) rfl rfl (ex_app _ _ rfl rfl rfl hr) hSn ?_; try simp only [Za, Zb, Zc, Zp, Zz, Zs]
            have hp7z : wz.heap[p7]? = some (.cells (icells 2 (.slice none 0 0) b.seed pj) 32 (0, 0)) := (hgr.block p7 (heap_lt HP7.out) (fun e => by have := (own_block HPJ.out e.symm).1; have := heap_lt H7.out; omega)).trans HP7.out
            replace hS := hSn
            rw [← takeSnoc HKX.out] at hown
            clear hSn hr hgr HPJ HP7 HQ
            refine hk3 (i := 19) rfl (by kernel_rfl) (fun _ _ _ _ h => h) hS rfl (fun K hK => ?_); go_simp; refine hK _ ?_; clear hK K; try simp only [Zp, Zz, Zs]
            refine ha_storeC (i := 20) (by kernel_rfl) rfl rfl 30 _ _ rfl p7 3 v9 rfl rfl (by kernel_rfl) (own_one hown) (by rw [(ic_cell hp7z).2.2.2]; rfl) (frozen_of_row _ _ _ _ _ hp7z) (hS.setCell (by simp) 3 v9) (fun hS => ?_); try simp only [Za, Zb, Zc, Zp, Zz, Zs]
            refine wpAnyH_done (by kernel_rfl) ?_ _
            have HPJ2 := Lib.hid (own_cellT hown hp7z (by decide) 3 v9)
            have HP72 : Hid ((wz.setCell ⟨p7, 3, none⟩ v9).heap[p7]? = some (.cells (icells 2 (.slice none 0 0) b.seed v9) 32 (0, 0))) := Lib.hid ((hs_new hp7z).trans rfl)
            have HW2 := Lib.hid hS
            clear hS hown hp7z kc vc z3
            go_wp2_with fail
            go_roundw
            case rel => exact ⟨j + 1, v9, by omega, by go_num, HPJ2, HP72, HW2⟩
            case measure => simp [intOf]; omega
          · refine sh_call (i := 13) rfl rfl (fun K hK => ?_); go_simp; refine ⟨_, _, ⟨rfl, rfl⟩, hK _ _ ⟨_, findI_any _ b 0 k HWF.out (by have := HTN.out; omega) _ ⟨_, _, _, _, by rw [← HDD.out, HTN.out], (HRS.out.keptT hS H7.out (by decide) (by decide) (by decide)).weak (Nat.zero_le _)⟩, ?_⟩⟩; clear hK K; rintro e w8 ⟨rfl, hb1⟩; refine ⟨_, rfl, hS.below hb1, ?_⟩; replace hS := hS.below hb1; (replace HPJ := Lib.hid (own_below HPJ.out hb1); replace HP7 := Lib.hid (below_look hb1 HP7.out); clear hb1); try simp only [Zp, Zz, Zs]
            try simp only [Za, Zb, Zc, Zp, Zz, Zs]
            try rw [HFE.out.1]
            refine hk3 (i := 14) rfl (by kernel_rfl) (fun _ _ _ _ h => h) hS rfl (fun K hK => ?_); go_simp; refine hK _ ?_; clear hK K; try simp only [Zp, Zz, Zs]
            (refine hv3 (i := 15) rfl (by kernel_rfl) (fun _ _ _ h => h) hS rfl (fun w' hw' => ex_one rfl (one3 (hw'.cell vc hnv))) ?_; try simp only [Za, Zb, Zc, Zp, Zz, Zs])
            (refine hv3 (i := 16) rfl (by kernel_rfl) (fun _ _ _ h => h) hS rfl (fun w' hw' => ex_build 91 _ rfl (L := [(0, .string k), (1, .int .i64 x)]) rfl (built91 _ _)) ?_; try simp only [Za, Zb, Zc, Zp, Zz, Zs])
            refine ha_two (i := 1) (j := 17) (by kernel_rfl) ?_ ?_
            · have q3 := (ic_cell HP7.out).2.2.2
              refine sh_val (i := 1) rfl rfl (ex_one rfl (one30 q3)) hS ?_; try simp only [Za, Zb, Zc, Zp, Zz, Zs]
              clear q3
              have hba := (Below.refl w8.heap.size w8).alloc (Nat.le_refl _) (.cells (pair k x) 91)
              have hSn := hS.below hba
              refine ha_do (i := 17) (by kernel_rfl) rfl rfl (ex_bs91 _ rfl rfl) hSn ?_; try simp only [Za, Zb, Zc, Zp, Zz, Zs]
              replace hS := hSn
              clear hSn
              have HQ := Lib.hid (own_pair1 w8 k x)
              replace HPJ := Lib.hid (own_below HPJ.out hba)
              replace HP7 := Lib.hid (below_look hba HP7.out)
              clear hba
              generalize w8.alloc (.cells (pair k x) 91) = w9 at *
              generalize w8.heap.size = q8 at HQ ⊢
              obtain ⟨v9, wz, hr, hown, hgr⟩ := run_app30 30 HPJ.out HQ.out hS.size (show j ≤ 1000000 by omega) (show 1 ≤ 1000000 by omega)
              have hSn : Kept [p7] w7 wz := hS.grownNew hgr (fun q hq => (own_block HPJ.out hq).1)
              refine ha_do (i := 18) (by kernel_rfl) rfl rfl (ex_app _ _ rfl rfl rfl hr) hSn ?_; try simp only [Za, Zb, Zc, Zp, Zz, Zs]
              have hp7z : wz.heap[p7]? = some (.cells (icells 2 (.slice none 0 0) b.seed pj) 32 (0, 0)) := (hgr.block p7 (heap_lt HP7.out) (fun e => by have := (own_block HPJ.out e.symm).1; have := heap_lt H7.out; omega)).trans HP7.out
              replace hS := hSn
              rw [← takeSnoc HKX.out] at hown
              clear hSn hr hgr HPJ HP7 HQ
              refine hk3 (i := 19) rfl (by kernel_rfl) (fun _ _ _ _ h => h) hS rfl (fun K hK => ?_); go_simp; refine hK _ ?_; clear hK K; try simp only [Zp, Zz, Zs]
              refine ha_storeC (i := 20) (by kernel_rfl) rfl rfl 30 _ _ rfl p7 3 v9 rfl rfl (by kernel_rfl) (own_one hown) (by rw [(ic_cell hp7z).2.2.2]; rfl) (frozen_of_row _ _ _ _ _ hp7z) (hS.setCell (by simp) 3 v9) (fun hS => ?_); try simp only [Za, Zb, Zc, Zp, Zz, Zs]
              refine wpAnyH_done (by kernel_rfl) ?_ _
              have HPJ2 := Lib.hid (own_cellT hown hp7z (by decide) 3 v9)
              have HP72 : Hid ((wz.setCell ⟨p7, 3, none⟩ v9).heap[p7]? = some (.cells (icells 2 (.slice none 0 0) b.seed v9) 32 (0, 0))) := Lib.hid ((hs_new hp7z).trans rfl)
              have HW2 := Lib.hid hS
              clear hS hown hp7z kc vc z3
              go_wp2_with fail
              go_roundw
              case rel => exact ⟨j + 1, v9, by omega, by go_num, HPJ2, HP72, HW2⟩
              case measure => simp [intOf]; omega
            · have hba := (Below.refl w8.heap.size w8).alloc (Nat.le_refl _) (.cells (pair k x) 91)
              have hSn := hS.below hba
              refine sh_w (i := 17) rfl rfl (ex_bs91 _ rfl rfl) hSn ?_; try simp only [Za, Zb, Zc, Zp, Zz, Zs]
              replace hS := hSn
              clear hSn
              have HQ := Lib.hid (own_pair1 w8 k x)
              replace HPJ := Lib.hid (own_below HPJ.out hba)
              replace HP7 := Lib.hid (below_look hba HP7.out)
              clear hba
              generalize w8.alloc (.cells (pair k x) 91) = w9 at *
              generalize w8.heap.size = q8 at HQ ⊢
              have q3 := (ic_cell HP7.out).2.2.2
              refine ha_do (i := 1) (by kernel_rfl) rfl rfl (ex_one rfl (one30 q3)) hS ?_; try simp only [Za, Zb, Zc, Zp, Zz, Zs]
              clear q3
              obtain ⟨v9, wz, hr, hown, hgr⟩ := run_app30 30 HPJ.out HQ.out hS.size (show j ≤ 1000000 by omega) (show 1 ≤ 1000000 by omega)
              have hSn : Kept [p7] w7 wz := hS.grownNew hgr (fun q hq => (own_block HPJ.out hq).1)
              refine ha_do (i := 18) (by kernel_rfl) rfl rfl (ex_app _ _ rfl rfl rfl hr) hSn ?_; try simp only [Za, Zb, Zc, Zp, Zz, Zs]
              have hp7z : wz.heap[p7]? = some (.cells (icells 2 (.slice none 0 0) b.seed pj) 32 (0, 0)) := (hgr.block p7 (heap_lt HP7.out) (fun e => by have := (own_block HPJ.out e.symm).1; have := heap_lt H7.out; omega)).trans HP7.out
              replace hS := hSn
              rw [← takeSnoc HKX.out] at hown
              clear hSn hr hgr HPJ HP7 HQ
              refine hk3 (i := 19) rfl (by kernel_rfl) (fun _ _ _ _ h => h) hS rfl (fun K hK => ?_); go_simp; refine hK _ ?_; clear hK K; try simp only [Zp, Zz, Zs]
              refine ha_storeC (i := 20) (by kernel_rfl) rfl rfl 30 _ _ rfl p7 3 v9 rfl rfl (by kernel_rfl) (own_one hown) (by rw [(ic_cell hp7z).2.2.2]; rfl) (frozen_of_row _ _ _ _ _ hp7z) (hS.setCell (by simp) 3 v9) (fun hS => ?_); try simp only [Za, Zb, Zc, Zp, Zz, Zs]
              refine wpAnyH_done (by kernel_rfl) ?_ _
              have HPJ2 := Lib.hid (own_cellT hown hp7z (by decide) 3 v9)
              have HP72 : Hid ((wz.setCell ⟨p7, 3, none⟩ v9).heap[p7]? = some (.cells (icells 2 (.slice none 0 0) b.seed v9) 32 (0, 0))) := Lib.hid ((hs_new hp7z).trans rfl)
              have HW2 := Lib.hid hS
              clear hS hown hp7z kc vc z3
              go_wp2_with fail
              go_roundw
              case rel => exact ⟨j + 1, v9, by omega, by go_num, HPJ2, HP72, HW2⟩
              case measure => simp [intOf]; omega
        · obtain rfl : j = np := by omega
          have hg2 := HW.out.look HG2.out (show w.heap.size + 1 ∉ [p7] by simp; omega)
          have hbw := HW.out.toBelow (B := w.heap.size) HB.out.size (by simp; omega)
          have hb := HB.out.trans hbw
          replace HPJ : Hid (wr.ownsRow w7.heap.size 91 2 pj j (prow (pairsT b.t))) := Lib.hid (by have := HPJ.out; rwa [List.take_of_length_le (by rw [← HNP.out]; exact Nat.le_refl _)] at this)
          obtain ⟨Aj, cj, rfl⟩ := own_shape HPJ.out
          go_upto_region 14 with (fail)
          apply wp_region_lit
          ((with_reducible apply wl_rowG); exact rfl; exact rfl; exact rowIt HP7.out); try simp only [Za, Zb, Zc, Zp, Zz, Zs]
          refine wl_putG (w.heap.size + 1) (icells 2 (.slice none 0 0) b.seed (.slice Aj j cj)) rfl rfl 32 _ hg2 info32 rfl (icells_one _ _ _ _ _ _ _ _) ?_
          rw [put_noneA]
          have HFIN := Lib.hid (hr_new (cs := icells 2 (.slice none 0 0) b.seed (.slice Aj j cj)) hg2)
          have HB9 := Lib.hid (below_setRow hb (g := w.heap.size + 1) (by omega) (icells 2 (.slice none 0 0) b.seed (.slice Aj j cj)))
          have HO9 := Lib.hid (own_weak (own_rowT HPJ.out hg2 (by decide) (icells 2 (.slice none 0 0) b.seed (.slice Aj j cj))) HB.out.size)
          clear hg2 hbw hb HPJ HP7 HW HK7 H6 H7 HRS HB
          go_wp2_with fail
          exact bodyPost_ret (res_item rfl _ _ (w.heap.size + 1) rfl HFIN.out) rfl ⟨_, rfl, ⟨_, _, by rw [HBF.out, HLN.out.2], by rw [HBF.out, HLN.out.1]; exact own_nil _ _ _ _, by rw [HBF.out, ← HNP.out]; exact HO9.out⟩, HB9.out⟩
end Go.Proofs.Ytbhdgeoljlhmcaa
namespace Go.Proofs.Ytbhdgeoljlhmcaa
open Go.RowKit Go.Proofs.Ytbhdgeoljlhmcaa.Nm Go.Proofs.Ytbhdgeoljlhmcaa.St
set_option linter.unusedSimpArgs false
theorem own_typed {w w' : World} {B e size n : Nat} {x : Value} {xs : List Value} (h : w.ownsRow B e size x n xs) (hs : ∀ (q : Nat) (cs : Array Value), w.heap[q]? = some (.cells cs e (0, 0)) → w'.heap[q]? = w.heap[q]?) : w'.ownsRow B e size x n xs :=
  own_same h (fun q _ hx => by obtain ⟨_, cc, hcc⟩ := own_block h hx; exact hs q cc hcc)
/-- the document's store keeps where its kinds of blocks do -/
theorem DAt.typed {w w' : World} {B : Nat} {v : Value} {A : Sto} (h : DAt w B v A) (hs : ∀ (q : Nat) (cs : Array Value) (e : TypeId), (e = 3 ∨ e = 105 ∨ e = 9 ∨ e = 4) → w.heap[q]? = some (.cells cs e (0, 0)) → w'.heap[q]? = w.heap[q]?) : DAt w' B v A := by
  obtain ⟨nv, bv, h1, h2, L, g1, g2, g3, g4⟩ := h
  refine ⟨nv, bv, h1, own_typed h2 (fun q cs hq => hs q cs 3 (by simp) hq), L, g1, g2, own_typed g3 (fun q cs hq => hs q cs 105 (by simp) hq), fun k cs b hk hb => ?_⟩
  obtain ⟨lv, kv, vv, uv, e, hr⟩ := g4 k cs b hk hb
  exact ⟨lv, kv, vv, uv, e, own_typed hr.l (fun q cs hq => hs q cs 9 (by simp) hq), own_typed hr.k (fun q cs hq => hs q cs 9 (by simp) hq), own_typed hr.v (fun q cs hq => hs q cs 3 (by simp) hq), own_typed hr.u (fun q cs hq => hs q cs 4 (by simp) hq), hr.ne⟩
theorem DAt.rowT {w : World} {B g : Nat} {v : Value} {A : Sto} {cs : Array Value} {t : TypeId} (h : DAt w B v A) (hg : w.heap[g]? = some (.cells cs t (0, 0))) (ht : ¬ (t = 3 ∨ t = 105 ∨ t = 9 ∨ t = 4)) (cs' : Array Value) : DAt (w.setRow g cs') B v A :=
  h.typed (fun q c e he hq => setRow_other _ _ _ _ (fun e2 => by
    subst e2
    rw [hg] at hq
    simp only [Option.some.injEq, Obj.cells.injEq] at hq
    exact ht (hq.2.1 ▸ he)))
theorem DAt.grownT {w w' : World} {B B' e n size : Nat} {x v : Value} {A : Sto} {ys : List Value} (h : DAt w B v A) (ho : w.ownsRow B' e size x n ys) (he : ¬ (e = 3 ∨ e = 105 ∨ e = 9 ∨ e = 4)) (hg : w.grownBy w' x.ownBlock) : DAt w' B v A :=
  h.typed (fun q c t ht hq => hg.block q (heap_lt hq) (fun e2 => by
    obtain ⟨_, cd, hcd⟩ := own_block ho e2.symm
    rw [hq] at hcd
    simp only [Option.some.injEq, Obj.cells.injEq] at hcd
    exact he (hcd.2.1 ▸ ht)))
theorem DAt.form {w : World} {B : Nat} {v : Value} {A : Sto} (h : DAt w B v A) : ∃ nv bv M sh, v = .agg (sc66 nv bv M sh) ∧ (sc66 nv bv M sh).all (·.oneCell') = true ∧ M = A.made ∧ sh = A.shared := by
  obtain ⟨nv, bv, h1, h2, h3⟩ := h
  obtain ⟨ys, hys⟩ := h3.own
  exact ⟨nv, bv, _, _, h1, sc66_one h2 hys _ _, rfl, rfl⟩
theorem DoIPost.at {v : Value} {A : Sto} {o : OpV} {w w' : World} {e : Ending} (hp : DoIPost v A o w e w') (h : DAt w 0 v A) : ∃ nv bv M sh, e = .returned (.tuple #[.agg (sc66 nv bv M sh), .int .i64 (refA A o)]) ∧ (sc66 nv bv M sh).all (·.oneCell') = true ∧ M = (doA A o).made ∧ sh = (doA A o).shared ∧ Below w.heap.size w w' ∧ DAt w' 0 (.agg (sc66 nv bv M sh)) (doA A o) := by
  obtain ⟨v', rfl, hb, hv⟩ := hp
  have hd : DAt w' 0 v' (doA A o) := by
    rcases hv with ⟨hr, rfl⟩ | ⟨hr, hd⟩
    · rw [show doA A o = A by unfold doA; rw [if_neg hr]]
      exact h.below hb
    · exact hd.weak (Nat.zero_le _)
  obtain ⟨nv, bv, M, sh, rfl, h1, h2, h3⟩ := hd.form
  exact ⟨nv, bv, M, sh, rfl, h1, h2, h3, hb, hd⟩
theorem look_grownT {w w' : World} {B' e e' n q size : Nat} {v : Value} {cs : Array Value} {ys : List Value} (h : w.heap[q]? = some (.cells cs e (0, 0))) (h' : w.ownsRow B' e' size v n ys) (he : e ≠ e') (hg : w.grownBy w' v.ownBlock) : w'.heap[q]? = some (.cells cs e (0, 0)) :=
  (hg.block q (heap_lt h) (fun e2 => by
    obtain ⟨_, cd, hcd⟩ := own_block h' e2.symm
    rw [hcd] at h
    simp only [Option.some.injEq, Obj.cells.injEq] at h
    exact he h.2.1.symm)).trans h
set_option maxHeartbeats 4000000 in
set_option maxRecDepth 100000 in
theorem PlayI_any (A : Option Addr) (n c : Nat) (l : List OpV) (hn : n ≤ 1000) (w : World) (h : OpsAt w A n l) :
    Calls Try.prog 15 #[.slice A n c] w fun e w' => ∃ iv ev, e = .returned (.tuple #[iv, ev]) ∧ ItemsAt w' w.heap.size iv ((List.range 8).map fun (i : Nat) => (stA l n).buf (i : Int)) ∧ w'.ownsRow w.heap.size 33 1 ev n (ints ((List.range n).map (errA l))) ∧ Below w.heap.size w w' := by
  have HO := Lib.hid h
  clear h
  go_enter Try.func15, Try.ntmps15
  go_upto_region 1 with (fail)
  apply wp_region_lit
  refine wl_ck rfl (fun K hK => ?_); go_simp; refine ⟨_, _, ⟨rfl, rfl⟩, hK _ _ ⟨_, NewI_any _, ?_⟩⟩; clear hK K; rintro e w1 ⟨v1, rfl, hd1, hb1⟩; refine ⟨_, rfl, ?_⟩; simp only [Zp, Zz, Zs]
  obtain ⟨nv1, bv1, M1, sh1, rfl, hone1, -, -⟩ := hd1.form
  refine wl_new (fun ev w => ex_alloc66 rfl ev w) ?_
  intro W5 p4 hb5 hl5 h5
  refine wl_putG p4 (sc66 nv1 bv1 M1 sh1) rfl rfl 66 _ h5 info66 rfl hone1 ?_
  rw [put_noneA]
  have H4 := Lib.hid (hr_new (cs := sc66 nv1 bv1 M1 sh1) h5)
  have HD := Lib.hid (((hd1.weak (Nat.zero_le _)).below hb5).rowT h5 (by decide) (sc66 nv1 bv1 M1 sh1))
  have hp4 : w.heap.size ≤ p4 := Nat.le_trans hb1.size hl5
  have hbw := below_setRow (hb1.trans (hb5.mono hb1.size)) (g := p4) hp4 (sc66 nv1 bv1 M1 sh1)
  clear hb1 hb5 h5 hl5 hone1 hd1
  generalize W5.setRow p4 (sc66 nv1 bv1 M1 sh1) = w2 at *
  go_wp2_with fail
  have hpre : Hid (w2.ownsRow w.heap.size 33 1 (.slice none 0 0) 0 (ints ((List.range 0).map (errA l)))) := Lib.hid (own_nil _ _ _ _)
  have HD0 : Hid (DAt w2 0 (.agg (sc66 nv1 bv1 M1 sh1)) (stA l 0)) := HD
  clear HD
  go_loopw [5, 6] (fun ev i wr => ∃ (j : Nat) (nv bv : Value) (M sh : Int), j ≤ n ∧ i = .int .i64 (j : Int) ∧ Hid (wr.ownsRow w.heap.size 33 1 ev j (ints ((List.range j).map (errA l)))) ∧ Hid (wr.heap[p4]? = some (.cells (sc66 nv bv M sh) 66 (0, 0))) ∧ Hid (DAt wr 0 (.agg (sc66 nv bv M sh)) (stA l j)) ∧ Below w.heap.size w wr) (fun _ i _ => n - (intOf i).toNat)
  case atStart => exact ⟨0, nv1, bv1, M1, sh1, by omega, rfl, hpre, H4, HD0, hbw⟩
  case round =>
    clear hpre H4 HD0 hbw
    obtain ⟨j, nv, bv, M, sh, hj, rfl, HE, H4, HD, hbw⟩ := hrel
    by_cases hlt : j < n
    · have hltI : (j : Int) < (n : Int) := by omega
      obtain ⟨b, off, rfl⟩ := HO.out.addr hlt
      obtain ⟨o, ho⟩ : ∃ o, l[j]? = some o := ⟨_, List.getElem?_eq_getElem (by rw [HO.out.1]; exact hlt)⟩
      have HOJ := Lib.hid ho
      clear ho
      by_cases h200 : (j : Int) < 200
      · have hd : decide ((j : Int) < 200) = true := by simpa using h200
        have HST := Lib.hid (stA_step HOJ.out (show j < 200 by omega))
        have hbd := stA_bound l j
        go_upto_region 8 with (fail)
        refine wp_region_held_drew (S := Kept [p4] wr) mixed (Kept.drew [p4] wr) (fun hS => ?_)
        refine hk3 (i := 1) rfl (by kernel_rfl) (fun _ _ _ _ h => h) hS rfl (fun K hK => ?_); go_simp; refine hK _ ?_; clear hK K; try simp only [Zp, Zz, Zs]
        refine hk3 (i := 2) rfl (by kernel_rfl) (fun _ _ _ _ h => h) hS rfl (fun K hK => ?_); go_simp; refine hK _ ?_; clear hK K; try simp only [Zp, Zz, Zs]
        refine hk3 (i := 3) rfl (by kernel_rfl) (fun _ _ _ _ h => h) hS rfl (fun K hK => ?_); go_simp; refine hK _ ?_; clear hK K; try simp only [Zp, Zz, Zs]
        (refine hv3 (i := 4) rfl (by kernel_rfl) (fun _ _ _ h => h) hS rfl (fun w' hw' => ex_row rfl ((HO.out.below (hbw.trans (hw'.toBelow hbw.size (by simp; omega)))).row HOJ.out)) ?_; try simp only [Za, Zb, Zc, Zp, Zz, Zs])
        have h4d : wr.drew.heap[p4]? = some (.cells (sc66 nv bv M sh) 66 (0, 0)) := H4.out
        refine ha_do (i := 0) (by kernel_rfl) rfl rfl (ex_row rfl (rowS h4d)) hS ?_; try simp only [Za, Zb, Zc, Zp, Zz, Zs]
        have hdd := HD.out.below (Below.refl _ wr).drew
        have hEd := own_below HE.out (Below.refl _ wr).drew
        refine ha_call (i := 5) (by kernel_rfl) rfl rfl (fun K hK => ?_); go_simp; refine ⟨_, _, ⟨rfl, rfl⟩, hK _ _ ⟨_, (DoI_any _ (stA l j) 0 (stA_good l j) (by omega) hbd.2.1 (by omega) o _ hdd).mono (fun e w' hp ↦ hp.at hdd), ?_⟩⟩; clear hK K; rintro e w7 ⟨nv2, bv2, M2, sh2, rfl, hone2, hM2, hsh2, hb1, hd2⟩; refine ⟨_, rfl, hS.below hb1, ?_⟩; replace hS := hS.below hb1; (clear hM2 hsh2); try simp only [Zp, Zz, Zs]
        rw [← HST.out.2]
        refine hk3 (i := 6) rfl (by kernel_rfl) (fun _ _ _ _ h => h) hS rfl (fun K hK => ?_); go_simp; refine hK _ ?_; clear hK K; try simp only [Zp, Zz, Zs]
        refine hk3 (i := 7) rfl (by kernel_rfl) (fun _ _ _ _ h => h) hS rfl (fun K hK => ?_); go_simp; refine hK _ ?_; clear hK K; try simp only [Zp, Zz, Zs]
        refine hk3 (i := 8) rfl (by kernel_rfl) (fun _ _ _ _ h => h) hS rfl (fun K hK => ?_); go_simp; refine hK _ ?_; clear hK K; try simp only [Zp, Zz, Zs]
        have h47 := below_look hb1 h4d
        refine ha_store (i := 9) (by kernel_rfl) rfl rfl 66 _ _ rfl p4 (sc66 nv2 bv2 M2 sh2) rfl rfl 66 _ h47 info66 rfl hone2 (hS.setRow (by simp) _) (fun hS => ?_); try simp only [Za, Zb, Zc, Zp, Zz, Zs]
        refine hk3 (i := 10) rfl (by kernel_rfl) (fun _ _ _ _ h => h) hS rfl (fun K hK => ?_); go_simp; refine hK _ ?_; clear hK K; try simp only [Zp, Zz, Zs]
        refine wpAnyH_done (by kernel_rfl) ?_ _
        rw [← HST.out.1] at hd2
        replace HD := Lib.hid (hd2.rowT h47 (by decide) (sc66 nv2 bv2 M2 sh2))
        replace HE := Lib.hid (own_rowT (own_below hEd hb1) h47 (by decide) (sc66 nv2 bv2 M2 sh2))
        replace H4 := Lib.hid (hr_new (cs := sc66 nv2 bv2 M2 sh2) h47)
        replace hbw := below_setRow (hbw.drew.trans (hb1.mono hbw.size)) (g := p4) hp4 (sc66 nv2 bv2 M2 sh2)
        clear hS h47 hd2 hdd hEd h4d hb1 hone2 HST hbd
        generalize w7.setRow p4 (sc66 nv2 bv2 M2 sh2) = w8 at *
        go_upto_region 9 with (fail)
        apply wp_region_lit
        refine wl_k rfl (fun K hK => ?_); go_simp; refine hK _ ?_; clear hK K
        refine wl_k rfl (fun K hK => ?_); go_simp; refine hK _ ?_; clear hK K
        obtain ⟨v', w', hr, hown, hgr, hloc⟩ := run_push25 (errA l j) 25 HE.out hbw.size (show j ≤ 1000000 by omega)
        refine wl_w rfl (ex_bs25_1 _ rfl rfl) ?_
        simp only [Zp, Zz, Zs]
        refine wl_w rfl (ex_app _ _ rfl rfl rfl hr) ?_
        simp only [Zp, Zz, Zs]
        have hal := (Below.refl w8.heap.size w8).alloc (Nat.le_refl _) (.cells #[.int .i64 (errA l j)] 33)
        have HD' := Lib.hid ((HD.out.below hal).grownT (own_below HE.out hal) (by decide) hgr)
        have H4' : Hid (w'.heap[p4]? = some (.cells (sc66 nv2 bv2 M2 sh2) 66 (0, 0))) := Lib.hid (look_grownT (below_look hal H4.out) (own_below HE.out hal) (by decide) hgr)
        have hbw' := hbw.trans ((hal.mono hbw.size).grown hgr (by have := hal.size; have := hbw.size; omega) (fun q hq => (own_block HE.out hq).1))
        have HE' := Lib.hid hown
        clear hr hown hgr hloc hal HE HD H4 hbw
        go_wp2_with fail
        go_roundw
        case rel => exact ⟨j + 1, nv2, bv2, M2, sh2, by omega, by go_num, by rw [errs_snoc]; exact HE', H4', HD', hbw'⟩
        case measure => simp [intOf]; omega
      · have hd : decide ((j : Int) < 200) = false := by simpa using h200
        have HST := Lib.hid (stA_stop HOJ.out (show ¬ j < 200 by omega))
        rw [← HST.out.1] at HD
        go_upto_region 9 with (fail)
        apply wp_region_lit
        refine wl_k rfl (fun K hK => ?_); go_simp; refine hK _ ?_; clear hK K
        refine wl_k rfl (fun K hK => ?_); go_simp; refine hK _ ?_; clear hK K
        obtain ⟨v', w', hr, hown, hgr, hloc⟩ := run_push25 2 25 HE.out hbw.size (show j ≤ 1000000 by omega)
        refine wl_w rfl (ex_bs25_1 _ rfl rfl) ?_
        simp only [Zp, Zz, Zs]
        refine wl_w rfl (ex_app _ _ rfl rfl rfl hr) ?_
        simp only [Zp, Zz, Zs]
        have hal := (Below.refl wr.heap.size wr).alloc (Nat.le_refl _) (.cells #[.int .i64 2] 33)
        have HD' := Lib.hid ((HD.out.below hal).grownT (own_below HE.out hal) (by decide) hgr)
        have H4' : Hid (w'.heap[p4]? = some (.cells (sc66 nv bv M sh) 66 (0, 0))) := Lib.hid (look_grownT (below_look hal H4.out) (own_below HE.out hal) (by decide) hgr)
        have hbw' := hbw.trans ((hal.mono hbw.size).grown hgr (by have := hal.size; have := hbw.size; omega) (fun q hq => (own_block HE.out hq).1))
        have HE' := Lib.hid hown
        clear hr hown hgr hloc hal HE HD H4 hbw
        go_wp2_with fail
        go_roundw
        case rel => exact ⟨j + 1, nv, bv, M, sh, by omega, by go_num, by rw [errs_snoc, HST.out.2]; exact HE', H4', HD', hbw'⟩
        case measure => simp [intOf]; omega
    · obtain rfl : j = n := by omega
      have HEF := Lib.hid HE.out
      clear HE
      go_wp2_with fail
      obtain ⟨W0, hW0⟩ : ∃ W0, W0 = wr := ⟨_, rfl⟩
      subst hW0
      have hpre2 := itemsAt_nil W0 W0.heap.size
      go_loopw [8, 9] (fun iv i wr2 => ∃ k : Nat, k ≤ 8 ∧ i = .int .i64 (k : Int) ∧ Hid (ItemsAt wr2 W0.heap.size iv ((List.range k).map fun (i : Nat) => (stA l j).buf (i : Int))) ∧ Hid (Below W0.heap.size W0 wr2)) (fun _ i _ => 8 - (intOf i).toNat)
      case atStart => exact ⟨0, by omega, rfl, Lib.hid hpre2, Lib.hid (Below.refl _ _)⟩
      case round =>
        clear hpre2
        obtain ⟨k, hk, rfl, HI, HB⟩ := hrel
        by_cases hlt2 : k < 8
        · have hk8 : (k : Int) < 8 := by omega
          have HD2 := Lib.hid (HD.out.below HB.out)
          have h4 := below_look HB.out H4.out
          have hzz := hbw.size
          have hzB := HB.out.size
          go_upto_region 14 with (fail)
          apply wp_region_lit
          ((with_reducible apply wl_rowG); exact rfl; exact rfl; exact rowS h4); try simp only [Za, Zb, Zc, Zp, Zz, Zs]
          refine wl_k rfl (fun K hK => ?_); go_simp; refine hK _ ?_; clear hK K
          refine wl_ck rfl (fun K hK => ?_); go_simp; refine ⟨_, _, ⟨rfl, rfl⟩, hK _ _ ⟨_, ItemI_yes _ (stA l j) 0 (stA_good l j) k hk8 _ HD2.out, ?_⟩⟩; clear hK K; rintro e w7 ⟨v, rfl, hit, hb1⟩; refine ⟨_, rfl, ?_⟩; simp only [Zp, Zz, Zs]
          obtain ⟨B1, d1, B2, d2, rfl, ho1, ho2⟩ := hit.shape
          replace HI := Lib.hid (HI.out.below hb1)
          replace HB := Lib.hid (HB.out.trans (hb1.mono HB.out.size))
          have HO1 := Lib.hid ho1
          have HO2 := Lib.hid ho2
          clear hit ho1 ho2 HD2 h4
          refine wl_k rfl (fun K hK => ?_); go_simp; refine hK _ ?_; clear hK K
          refine wl_k rfl (fun K hK => ?_); go_simp; refine hK _ ?_; clear hK K
          refine wl_k rfl (fun K hK => ?_); go_simp; refine hK _ ?_; clear hK K
          refine wl_new (fun ev w => ex_alloc32 rfl ev w) ?_
          intro W5 p5 hb5 hl5 h5
          refine wl_putG p5 (icells ((stA l j).buf (k : Int)).kd (.slice B1 ((stA l j).buf (k : Int)).l.length d1) ((stA l j).buf (k : Int)).seed (.slice B2 (pairsT ((stA l j).buf (k : Int)).t).length d2)) rfl rfl 32 _ h5 info32 rfl (icells_one _ _ _ _ _ _ _ _) ?_
          rw [put_noneA]
          have hbb := below_setRow hb5 (g := p5) hl5 (icells ((stA l j).buf (k : Int)).kd (.slice B1 ((stA l j).buf (k : Int)).l.length d1) ((stA l j).buf (k : Int)).seed (.slice B2 (pairsT ((stA l j).buf (k : Int)).t).length d2))
          have hz8 := hb1.size
          replace HI := Lib.hid (HI.out.below hbb)
          replace HB := Lib.hid (HB.out.trans (hbb.mono HB.out.size))
          replace HO1 := Lib.hid (own_weak (own_below HO1.out hbb) hzB)
          replace HO2 := Lib.hid (own_weak (own_below HO2.out hbb) hzB)
          have h5' := hr_new (cs := icells ((stA l j).buf (k : Int)).kd (.slice B1 ((stA l j).buf (k : Int)).l.length d1) ((stA l j).buf (k : Int)).seed (.slice B2 (pairsT ((stA l j).buf (k : Int)).t).length d2)) h5
          clear hb5 h5 hbb hl5 hb1
          generalize W5.setRow p5 (icells ((stA l j).buf (k : Int)).kd (.slice B1 ((stA l j).buf (k : Int)).l.length d1) ((stA l j).buf (k : Int)).seed (.slice B2 (pairsT ((stA l j).buf (k : Int)).t).length d2)) = w8 at *
          refine wl_k rfl (fun K hK => ?_); go_simp; refine hK _ ?_; clear hK K
          go_upto_region 15 with (fail)
          apply wp_region_lit
          refine wl_k rfl (fun K hK => ?_); go_simp; refine hK _ ?_; clear hK K
          ((with_reducible apply wl_rowG); exact rfl; exact rfl; exact rowIt h5')
          simp only [Zp, Zz, Zs]
          obtain ⟨v', w', hr, hits, hbI⟩ := run_push24 24 HI.out HB.out.size (by simp; omega) HO1.out HO2.out
          refine wl_w rfl (ex_bs24_1 _ rfl rfl) ?_
          simp only [Zp, Zz, Zs]
          refine wl_w rfl (ex_app _ _ rfl rfl rfl hr) ?_
          simp only [Zp, Zz, Zs]
          have hsn : (List.range (k + 1)).map (fun (i : Nat) => (stA l j).buf (i : Int)) = (List.range k).map (fun (i : Nat) => (stA l j).buf (i : Int)) ++ [(stA l j).buf (k : Int)] := by rw [List.range_succ]; simp
          rw [← hsn] at hits
          have HITS := Lib.hid hits
          have HBN := Lib.hid (HB.out.trans hbI)
          clear hr hits hsn h5' HO1 HO2 HI hbI HB hzz hzB hz8
          go_wp2_with fail
          go_roundw
          case rel => exact ⟨k + 1, by omega, by go_num, HITS, HBN⟩
          case measure => simp [intOf]; omega
        · obtain rfl : k = 8 := by omega
          have HEF2 := Lib.hid (own_below HEF.out HB.out)
          have HBF := Lib.hid (hbw.trans (HB.out.mono hbw.size))
          have HIF := Lib.hid (HI.out.weak hbw.size)
          clear HI HB HEF HD H4 hbw
          go_wp2_with fail
          go_ret2
          exact ⟨_, _, rfl, HIF.out, HEF2.out, HBF.out⟩
end Go.Proofs.Ytbhdgeoljlhmcaa
namespace Go.Proofs.Ytbhdgeoljlhmcaa
open Go.RowKit Go.Proofs.Ytbhdgeoljlhmcaa.Nm Go.Proofs.Ytbhdgeoljlhmcaa.St
/-- items keep while a store they are no part of changes -/
theorem ItemsAt.ran {w w' : World} {s B : Nat} {rs rs' : List Row} {v : Value} {bs : List Buf} (h : ItemsAt w B v bs) (hf : ∀ q, Foot s rs q → q < B) (hr : Ran s rs w rs' w') : ItemsAt w' B v bs := by
  obtain ⟨ps, h1, h2, h3⟩ := h
  have hs : ∀ {e : TypeId} {size n : Nat} {x : Value} {xs : List Value}, w.ownsRow B e size x n xs → w'.ownsRow B e size x n xs := fun h => own_same h (fun q hq hx => hr.block q hq (fun hc => by have := hf q hc; have := (own_block h hx).1; omega))
  exact ⟨ps, h1, hs h2, fun i b p hi hp => ⟨hs (h3 i b p hi hp).1, hs (h3 i b p hi hp).2⟩⟩
/-- the cells of a list of items -/
theorem ItemsAt.cells {w : World} {B : Nat} {v : Value} {bs : List Buf} (h : ItemsAt w B v bs) (hn : 1 ≤ bs.length) : ∃ q cap cur, v = .slice (some ⟨q, 0, none⟩) bs.length cap ∧ B ≤ q ∧ w.heap[q]? = some (.cells cur 32 (0, 0)) ∧ ∀ (i : Nat) (b : Buf), bs[i]? = some b → ∃ v : Array Value,
    v.size = 4 ∧ cur.extract (i * 4) (i * 4 + 4) = v ∧ ItemAt w B (.agg v) b := by
  obtain ⟨ps, hps, hr, hall⟩ := h
  rcases hr.2 with ⟨_, h0⟩ | ⟨q, cap, cur, hv, hB, hg, h1, h2, h3, h4⟩
  · omega
  · refine ⟨q, cap, cur, hv, hB, hg, fun i b hi => ?_⟩
    have hil := (List.getElem?_eq_some_iff.1 hi).1
    obtain ⟨p, hp⟩ : ∃ p, ps[i]? = some p := ⟨_, List.getElem?_eq_getElem (by omega)⟩
    obtain ⟨g0, g1, g2, g3⟩ := itRow_get hi hp
    have key : ∀ x u, x < bs.length * 4 → (itRow bs ps)[x]? = some u → cur[x]? = some u := fun x u hx hu => by
      rw [← h4, List.getElem?_take_of_lt hx] at hu; simpa using hu
    have k0 := key _ _ (by omega) g0
    have k1 := key _ _ (by omega) g1
    have k2 := key _ _ (by omega) g2
    have k3 := key _ _ (by omega) g3
    refine ⟨icells b.kd p.1 b.seed p.2, rfl, ?_, p.1, p.2, rfl, (hall i b p hi hp).1, (hall i b p hi hp).2⟩
    have hz : i * 4 + 4 ≤ cur.size := by omega
    apply Array.ext
    · simp [icells]; omega
    · intro j hj1 hj2
      have hj : j = 0 ∨ j = 1 ∨ j = 2 ∨ j = 3 := by simp [icells] at hj2; omega
      rw [Array.getElem_extract]
      rcases hj with rfl | rfl | rfl | rfl
      · have := (Array.getElem?_eq_some_iff.1 k0).2; simpa [icells] using this
      · have := (Array.getElem?_eq_some_iff.1 k1).2; simpa [icells] using this
      · have := (Array.getElem?_eq_some_iff.1 k2).2; simpa [icells] using this
      · have := (Array.getElem?_eq_some_iff.1 k3).2; simpa [icells] using this
end Go.Proofs.Ytbhdgeoljlhmcaa
namespace Go.Proofs.Ytbhdgeoljlhmcaa
open Go.RowKit Go.Proofs.Ytbhdgeoljlhmcaa.Nm Go.Proofs.Ytbhdgeoljlhmcaa.St
set_option linter.unusedSimpArgs false
theorem one33 {w : World} {ad : Addr} {v : Value} (h : w.cell? ad = some v) : OneAt w 33 ad v := one_of u33 rfl h
theorem el22 : Try.prog.elem 22 = 39 := by kernel_rfl
theorem u22e : Try.prog.underlying 22 = some (.slice (Try.prog.elem 22)) := by rw [el22]; exact u22
theorem sz39 (w : World) : (sizeOf 39).run Try.prog w = .ok 6 w := by kernel_rfl
theorem sz22 (w : World) : (sizeOf (Try.prog.elem 22)).run Try.prog w = .ok 6 w := by rw [el22]; exact sz39 w
theorem sliced0 (A : Option Addr) (h m s : Nat) : sliced A 0 h m s = .slice A h m := by
  unfold sliced
  cases A <;> simp [Addr.add]
theorem ex_slH22 {ev : Operand → Value} {op : Oper} {w : World} (x y : Operand) (ho : op.op = .slice 22 x none (some y) none) {A : Option Addr} {n cap hi : Nat} (hx : ev x = .slice A n cap) (hy : ev y = .int .i64 (hi : Int)) (hl : hi ≤ cap) :
    (execOp ev op).run Try.prog w = .ok (.value (.slice A hi cap)) w := by
  have h := run_slice_h (P := Try.prog) w 22 A n cap u22e .i64 (hi : Int) (by omega) (by omega)
  unfold execOp
  rw [sz22] at h
  simp [ho, hx, hy, run_sliceAt_slice w 22 _ _ _ _ u22e, h, Result.andThen, sliced0]
theorem OpsAt.take {w : World} {A : Option Addr} {n m : Nat} {l : List OpV} (h : OpsAt w A n l) (hm : m ≤ n) : OpsAt w A m (l.take m) :=
  ⟨by rw [List.length_take, h.1]; omega, fun i o hi => by
    have hl := (List.getElem?_eq_some_iff.1 hi).1
    rw [List.length_take] at hl
    rw [List.getElem?_take_of_lt (by omega)] at hi
    exact h.2 i o hi⟩
set_option maxHeartbeats 4000000 in
set_option maxRecDepth 100000 in
theorem StorePlay_any (A : Option Addr) (n c : Nat) (l : List OpV) (hc : n ≤ c) (w : World) (h : OpsAt w A n l) :
    Calls Try.prog 3 #[.slice A n c] w fun e w' => e = .returned (.bool true) ∧ Below w.heap.size w w' := by
  have HO := Lib.hid h
  clear h
  go_enter Try.func3, Try.ntmps3
  by_cases h300 : 300 < (n : Int)
  · go_wp2_with fail
    go_ret
    exact ⟨rfl, Below.refl _ _⟩
  · go_upto_region 1 with (fail)
    apply wp_region_lit
    refine wl_k rfl (fun K hK => ?_); go_simp; refine hK _ ?_; clear hK K
    refine wl_k rfl (fun K hK => ?_); go_simp; refine hK _ ?_; clear hK K
    refine wl_k rfl (fun K hK => ?_); go_simp; refine hK _ ?_; clear hK K
    refine wl_k rfl (fun K hK => ?_); go_simp; refine hK _ ?_; clear hK K
    refine wl_k rfl (fun K hK => ?_); go_simp; refine hK _ ?_; clear hK K
    refine wl_k rfl (fun K hK => ?_); go_simp; refine hK _ ?_; clear hK K
    refine wl_k rfl (fun K hK => ?_); go_simp; refine hK _ ?_; clear hK K
    refine wl_k rfl (fun K hK => ?_); go_simp; refine hK _ ?_; clear hK K
    rw [show min (n : Int) 200 = ((min n 200 : Nat) : Int) by omega]
    refine wl_valG rfl (ex_slH22 _ _ rfl rfl rfl (by omega)) ?_
    try simp only [Za, Zb, Zc, Zp, Zz, Zs]
    refine wl_ck rfl (fun K hK => ?_); go_simp; refine ⟨_, _, ⟨rfl, rfl⟩, hK _ _ ⟨_, heavy_any A (min n 200) c (l.take (min n 200)) _ (HO.out.take (Nat.min_le_left _ _)), ?_⟩⟩; clear hK K; rintro e w1 ⟨q1, rfl, -, hbw⟩; refine ⟨_, rfl, ?_⟩; simp only [Zp, Zz, Zs]
    cases q1 with
    | true =>
      go_wp2_with fail
      go_ret
      exact ⟨rfl, hbw⟩
    | false =>
      refine wl_k rfl (fun K hK => ?_); go_simp; refine hK _ ?_; clear hK K
      go_upto_region 3 with (fail)
      apply wp_region_lit
      refine wl_k rfl (fun K hK => ?_); go_simp; refine hK _ ?_; clear hK K
      refine wl_ck rfl (fun K hK => ?_); go_simp; refine ⟨_, _, ⟨rfl, rfl⟩, hK _ _ ⟨_, Play_any A n c l (by omega) _ (HO.out.below hbw), ?_⟩⟩; clear hK K; rintro e w2 ⟨iv, ev, rfl, hit, her, hb1⟩; refine ⟨_, rfl, ?_⟩; simp only [Zp, Zz, Zs]
      have hz2 := hbw.size
      have HIT := Lib.hid hit
      have HER := Lib.hid her
      replace hbw := hbw.trans (hb1.mono hbw.size)
      clear hit her hb1
      refine wl_k rfl (fun K hK => ?_); go_simp; refine hK _ ?_; clear hK K
      refine wl_k rfl (fun K hK => ?_); go_simp; refine hK _ ?_; clear hK K
      refine wl_k rfl (fun K hK => ?_); go_simp; refine hK _ ?_; clear hK K
      refine wl_k rfl (fun K hK => ?_); go_simp; refine hK _ ?_; clear hK K
      refine wl_k rfl (fun K hK => ?_); go_simp; refine hK _ ?_; clear hK K
      go_upto_region 4 with (fail)
      apply wp_region_lit
      refine wl_k rfl (fun K hK => ?_); go_simp; refine hK _ ?_; clear hK K
      refine wl_ck rfl (fun K hK => ?_); go_simp; refine ⟨_, _, ⟨rfl, rfl⟩, hK _ _ ⟨_, PlayI_any A n c l (by omega) _ (HO.out.below hbw), ?_⟩⟩; clear hK K; rintro e w3 ⟨iv2, ev2, rfl, hit2, her2, hb1⟩; refine ⟨_, rfl, ?_⟩; simp only [Zp, Zz, Zs]
      have HIT2 := Lib.hid hit2
      have HER2 := Lib.hid her2
      replace HIT := Lib.hid (HIT.out.below hb1)
      replace HER := Lib.hid (own_below HER.out hb1)
      replace hbw := hbw.trans (hb1.mono hbw.size)
      clear hit2 her2 hb1 hz2
      refine wl_k rfl (fun K hK => ?_); go_simp; refine hK _ ?_; clear hK K
      refine wl_k rfl (fun K hK => ?_); go_simp; refine hK _ ?_; clear hK K
      refine wl_k rfl (fun K hK => ?_); go_simp; refine hK _ ?_; clear hK K
      refine wl_k rfl (fun K hK => ?_); go_simp; refine hK _ ?_; clear hK K
      refine wl_k rfl (fun K hK => ?_); go_simp; refine hK _ ?_; clear hK K
      obtain ⟨X, hX⟩ : ∃ X, X = stA l n := ⟨_, rfl⟩
      have HGX : Hid (Good X) := Lib.hid (by rw [hX]; exact stA_good l n)
      rw [← hX] at HIT HIT2
      have hbs : (List.range 8).map (fun (i : Nat) => X.buf (i : Int)) = bufsTo X 8 := rfl
      rw [hbs] at HIT HIT2
      have ⟨p1, cp1, cur1, e1, hq1, hg1, hall1⟩ := HIT.out.cells (by rw [bufsTo_length]; omega)
      have ⟨p2, cp2, cur2, e2, hq2, hg2, hall2⟩ := HIT2.out.cells (by rw [bufsTo_length]; omega)
      rw [bufsTo_length] at e1 e2
      subst e1 e2
      obtain ⟨E1, d1, rfl⟩ := own_shape HER.out
      obtain ⟨E2, d2, rfl⟩ := own_shape HER2.out
      have HI1 : Hid (∀ k : Nat, k < 8 → ∃ v : Array Value, v.size = 4 ∧ cur1.extract (k * 4) (k * 4 + 4) = v ∧ ∃ B, ItemAt w3 B (.agg v) (X.buf (k : Int))) := Lib.hid (fun k hk => by obtain ⟨v, a1, a2, a3⟩ := hall1 k _ (bufsTo_get X hk); exact ⟨v, a1, a2, _, a3⟩)
      have HI2 : Hid (∀ k : Nat, k < 8 → ∃ v : Array Value, v.size = 4 ∧ cur2.extract (k * 4) (k * 4 + 4) = v ∧ ∃ B, ItemAt w3 B (.agg v) (X.buf (k : Int))) := Lib.hid (fun k hk => by obtain ⟨v, a1, a2, a3⟩ := hall2 k _ (bufsTo_get X hk); exact ⟨v, a1, a2, _, a3⟩)
      have HQ1 := Lib.hid hg1
      have HQ2 := Lib.hid hg2
      have HSM := Lib.hid (fun (m : Nat) => buf_small HGX.out (m : Int))
      clear hall1 hall2 hq1 hq2 hg1 hg2 HIT HIT2 HGX hX hbs
      go_wp2_with fail
      go_loopw [7] (fun kv wr => ∃ k : Nat, k ≤ 8 ∧ kv = .int .i64 (k : Int) ∧ Hid (Below w3.heap.size w3 wr)) (fun kv _ => 8 - (intOf kv).toNat)
      case atStart => exact ⟨0, by omega, rfl, Lib.hid (Below.refl _ _)⟩
      case round =>
        obtain ⟨k, hk, rfl, HB⟩ := hrel
        by_cases hk8 : k < 8
        · have hk8I : (k : Int) < 8 := by omega
          obtain ⟨v1, hz1, hx1, D1, it1⟩ := HI1.out k hk8
          obtain ⟨v2, hz2, hx2, D2, it2⟩ := HI2.out k hk8
          have hsm := HSM.out k
          have HC1 := below_look HB.out HQ1.out
          have HC2 := below_look HB.out HQ2.out
          obtain ⟨YB, hYB⟩ : ∃ YB, YB = X.buf (k : Int) := ⟨_, rfl⟩
          rw [← hYB] at it1 it2 hsm
          have HX1 := Lib.hid hx1
          have HX2 := Lib.hid hx2
          have HZ1 := Lib.hid hz1
          have HZ2 := Lib.hid hz2
          have HT1 := Lib.hid it1
          have HT2 := Lib.hid it2
          clear hx1 hx2 it1 it2 hz1 hz2 hYB
          go_upto_region 10 with (fail)
          refine wp_region_held_drew (S := Kept [] wr) mixed (Kept.drew [] wr) (fun hS => ?_)
          refine hk3 (i := 0) rfl (by kernel_rfl) (fun _ _ _ _ h => h) hS rfl (fun K hK => ?_); go_simp; refine hK _ ?_; clear hK K; try simp only [Zp, Zz, Zs]
          refine hk3 (i := 1) rfl (by kernel_rfl) (fun _ _ _ _ h => h) hS rfl (fun K hK => ?_); go_simp; refine hK _ ?_; clear hK K; try simp only [Zp, Zz, Zs]
          refine hk3 (i := 2) rfl (by kernel_rfl) (fun _ _ _ _ h => h) hS rfl (fun K hK => ?_); go_simp; refine hK _ ?_; clear hK K; try simp only [Zp, Zz, Zs]
          (refine hv3 (i := 3) rfl (by kernel_rfl) (fun _ _ _ h => h) hS rfl (fun w' hw' => ex_row rfl ((fun h => row_mid h HX1.out Ytbhdgeoljlhmcaa.u32 rfl HZ1.out info32) (hw'.look HC1 (by simp)))) ?_; try simp only [Za, Zb, Zc, Zp, Zz, Zs])
          refine hk3 (i := 4) rfl (by kernel_rfl) (fun _ _ _ _ h => h) hS rfl (fun K hK => ?_); go_simp; refine hK _ ?_; clear hK K; try simp only [Zp, Zz, Zs]
          refine hk3 (i := 5) rfl (by kernel_rfl) (fun _ _ _ _ h => h) hS rfl (fun K hK => ?_); go_simp; refine hK _ ?_; clear hK K; try simp only [Zp, Zz, Zs]
          refine hk3 (i := 6) rfl (by kernel_rfl) (fun _ _ _ _ h => h) hS rfl (fun K hK => ?_); go_simp; refine hK _ ?_; clear hK K; try simp only [Zp, Zz, Zs]
          (refine hv3 (i := 7) rfl (by kernel_rfl) (fun _ _ _ h => h) hS rfl (fun w' hw' => ex_row rfl ((fun h => row_mid h HX2.out Ytbhdgeoljlhmcaa.u32 rfl HZ2.out info32) (hw'.look HC2 (by simp)))) ?_; try simp only [Za, Zb, Zc, Zp, Zz, Zs])
          refine ha_call (i := 8) (by kernel_rfl) rfl rfl (fun K hK => ?_); go_simp; refine ⟨_, _, ⟨rfl, rfl⟩, hK _ _ ⟨_, EqItem_at YB YB (by have := hsm.1; omega) (by have := hsm.2; have := pairsT_le YB.t; omega) rfl rfl rfl rfl (HT1.out.below (HB.out.trans ((Below.refl _ wr).drew.mono HB.out.size))) (HT2.out.below (HB.out.trans ((Below.refl _ wr).drew.mono HB.out.size))), ?_⟩⟩; clear hK K; rintro e w9 ⟨rfl, hb1⟩; refine ⟨_, rfl, hS.below hb1, ?_⟩; replace hS := hS.below hb1; (clear hb1); try simp only [Zp, Zz, Zs]
          refine hk3 (i := 9) rfl (by kernel_rfl) (fun _ _ _ _ h => h) hS rfl (fun K hK => ?_); go_simp; refine hK _ ?_; clear hK K; try simp only [Zp, Zz, Zs]
          refine wpAnyH_done (by kernel_rfl) ?_ _
          have HB2 : Hid (Below w3.heap.size w3 _) := Lib.hid (HB.out.trans (hS.toBelow HB.out.size (by simp)))
          clear hS HB
          go_wp2_with fail
          go_roundw
          case rel => exact ⟨k + 1, by omega, by go_num, HB2⟩
          case measure => simp [intOf]; omega
        · obtain rfl : k = 8 := by omega
          have hb9 := hbw.trans (HB.out.mono hbw.size)
          replace HER := Lib.hid (own_below HER.out HB.out)
          replace HER2 := Lib.hid (own_below HER2.out HB.out)
          clear HI1 HI2 HQ1 HQ2 HSM HB hbw
          rw [show ((8 : Nat) : Int) = (8 : Int) from rfl]
          go_wp2_with fail
          obtain ⟨W0, hW0⟩ : ∃ W0, W0 = wr := ⟨_, rfl⟩
          subst hW0
          go_loopw [8] (fun kv wr2 => ∃ k : Nat, k ≤ n ∧ kv = .int .i64 (k : Int) ∧ Hid (Below W0.heap.size W0 wr2)) (fun kv _ => n - (intOf kv).toNat)
          case atStart => exact ⟨0, by omega, rfl, Lib.hid (Below.refl _ _)⟩
          case round =>
            obtain ⟨k, hk, rfl, HB⟩ := hrel
            by_cases hkn : k < n
            · have hknI : (k : Int) < (n : Int) := by omega
              obtain ⟨x1, y1, ex1, -⟩ := own_p HER.out (by omega)
              obtain ⟨x2, y2, ex2, -⟩ := own_p HER2.out (by omega)
              have g1 : E1 = some ⟨x1, 0, none⟩ := by cases ex1; rfl
              have g2 : E2 = some ⟨x2, 0, none⟩ := by cases ex2; rfl
              clear ex1 ex2
              subst g1 g2
              have hcell : (ints ((List.range n).map (errA l)))[k]? = some (.int .i64 (errA l k)) := by
                unfold ints
                rw [List.getElem?_map, List.getElem?_map, List.getElem?_range hkn]; rfl
              have c1 := below_cell HB.out ((HER.out.cellAt k (by omega)).trans hcell)
              have c2 := below_cell HB.out ((HER2.out.cellAt k (by omega)).trans hcell)
              clear hcell
              go_upto_region 15 with (fail)
              refine wp_region_held_drew (S := Kept [] wr) mixed (Kept.drew [] wr) (fun hS => ?_)
              refine hk3 (i := 0) rfl (by kernel_rfl) (fun _ _ _ _ h => h) hS rfl (fun K hK => ?_); go_simp; refine hK _ ?_; clear hK K; try simp only [Zp, Zz, Zs]
              refine hk3 (i := 1) rfl (by kernel_rfl) (fun _ _ _ _ h => h) hS rfl (fun K hK => ?_); go_simp; refine hK _ ?_; clear hK K; try simp only [Zp, Zz, Zs]
              refine hk3 (i := 2) rfl (by kernel_rfl) (fun _ _ _ _ h => h) hS rfl (fun K hK => ?_); go_simp; refine hK _ ?_; clear hK K; try simp only [Zp, Zz, Zs]
              refine hv3 (i := 3) rfl (by kernel_rfl) (fun _ _ _ h => h) hS rfl (fun w' hw' => ex_one rfl (one33 (hw'.cell c1 (by simp <;> omega)))) ?_; try simp only [Zp, Zz, Zs]
              refine hk3 (i := 4) rfl (by kernel_rfl) (fun _ _ _ _ h => h) hS rfl (fun K hK => ?_); go_simp; refine hK _ ?_; clear hK K; try simp only [Zp, Zz, Zs]
              refine hk3 (i := 5) rfl (by kernel_rfl) (fun _ _ _ _ h => h) hS rfl (fun K hK => ?_); go_simp; refine hK _ ?_; clear hK K; try simp only [Zp, Zz, Zs]
              refine hk3 (i := 6) rfl (by kernel_rfl) (fun _ _ _ _ h => h) hS rfl (fun K hK => ?_); go_simp; refine hK _ ?_; clear hK K; try simp only [Zp, Zz, Zs]
              refine hv3 (i := 7) rfl (by kernel_rfl) (fun _ _ _ h => h) hS rfl (fun w' hw' => ex_one rfl (one33 (hw'.cell c2 (by simp <;> omega)))) ?_; try simp only [Zp, Zz, Zs]
              refine hk3 (i := 8) rfl (by kernel_rfl) (fun _ _ _ _ h => h) hS rfl (fun K hK => ?_); go_simp; refine hK _ ?_; clear hK K; try simp only [Zp, Zz, Zs]
              refine wpAnyH_done (by kernel_rfl) ?_ _
              have HB2 : Hid (Below W0.heap.size W0 _) := Lib.hid (HB.out.trans (hS.toBelow HB.out.size (by simp)))
              clear hS HB c1 c2
              go_wp2_with fail
              go_roundw
              case rel => exact ⟨k + 1, by omega, by go_num, HB2⟩
              case measure => simp [intOf]; omega
            · obtain rfl : k = n := by omega
              replace hb9 := hb9.trans (HB.out.mono hb9.size)
              clear HER HER2 HB
              go_upto_region 17 with (fail)
              apply wp_region_lit
              refine wl_ck rfl (fun K hK => ?_); go_simp; refine ⟨_, _, ⟨rfl, rfl⟩, hK _ _ ⟨_, awake_any _, ?_⟩⟩; clear hK K; rintro e w15 ⟨rfl, hb1⟩; refine ⟨_, rfl, ?_⟩; simp only [Zp, Zz, Zs]
              replace hb9 := hb9.trans (hb1.mono hb9.size)
              clear hb1
              go_wp2_with fail
              go_ret
              exact ⟨rfl, hb9⟩
end Go.Proofs.Ytbhdgeoljlhmcaa
