/- An entry taken out of a dictionary by the document. -/
import Derived.Outline
import Derived.Test.YtbhdgeoljlhmcaaQB18
namespace Go.Proofs.Ytbhdgeoljlhmcaa
open Go.RowKit Go.Proofs.Ytbhdgeoljlhmcaa.Nm Go.Proofs.Ytbhdgeoljlhmcaa.St
set_option linter.unusedSimpArgs false
theorem own_grown {w w' : World} {B B' e e' n m : Nat} {x v : Value} {xs ys : List Value} (h : w.ownsRow B e 1 x m xs) (h' : w.ownsRow B' e' 1 v n ys) (he : e ≠ e') (hg : w.grownBy w' v.ownBlock) : w'.ownsRow B e 1 x m xs :=
  own_same h (fun q hq hx => hg.block q hq (fun e2 => by
    obtain ⟨_, cc, hcc⟩ := own_block h hx
    obtain ⟨_, cd, hcd⟩ := own_block h' e2.symm
    rw [hcd] at hcc
    simp only [Option.some.injEq, Obj.cells.injEq] at hcc
    exact he hcc.2.1.symm))
theorem look_grown {w w' : World} {B' e e' n q : Nat} {v : Value} {cs : Array Value} {ys : List Value} (h : w.heap[q]? = some (.cells cs e (0, 0))) (h' : w.ownsRow B' e' 1 v n ys) (he : e ≠ e') (hg : w.grownBy w' v.ownBlock) : w'.heap[q]? = some (.cells cs e (0, 0)) :=
  (hg.block q (heap_lt h) (fun e2 => by
    obtain ⟨_, cd, hcd⟩ := own_block h' e2.symm
    rw [hcd] at h
    simp only [Option.some.injEq, Obj.cells.injEq] at h
    exact he h.2.1.symm)).trans h
theorem run_app63 {w : World} {B n q : Nat} {v : Value} {l : List Int} {k : Int} (ty : TypeId) (ho : w.ownsRow B 3 1 v n (ints l)) (hq : w.heap[q]? = some (.cells #[.int .i64 k] 3 (0, 0))) (hB : B ≤ w.heap.size) (h1 : n ≤ 1000000) :
    ∃ v' w', (Builtin.append_ #[63, 63] ty #[v, .slice (some ⟨q, 0, none⟩) 1 1]).run Try.prog w = .ok v' w' ∧ w'.ownsRow B 3 1 v' (n + 1) (ints (l ++ [k])) ∧ w.grownBy w' v.ownBlock := by
  obtain ⟨i0, hi, hz0, hz1, hz2⟩ := info_parts info3b
  obtain ⟨v', w', hr, h3, h4, _, _⟩ := run_append_own_at (P := Try.prog) w B 63 ty 3 i0 _ 1 8 u63 hi hz0 hz1 hz2 rfl (by decide) v n (ints l) ho ⟨q, 0, none⟩ 1 1 [.int .i64 k] rfl (cells_at hq) (by intro u hu; simp at hu; subst hu; rfl) (by unfold maxLen; omega) (by omega) hB
  exact ⟨v', w', hr, by unfold ints at *; rw [List.map_append]; exact h3, h4⟩
theorem own_kept {w w' : World} {B e n : Nat} {D : List Nat} {v : Value} {xs : List Value} (h : w.ownsRow B e 1 v n xs) (hk : Kept D w w') (hd : ∀ q ∈ D, q < B) : w'.ownsRow B e 1 v n xs :=
  own_same h (fun q hq hx => hk.block q hq (fun hm => by have := hd q hm; have := (own_block h hx).1; omega))
theorem RSl.keep {w w' : World} {B C : Nat} {lv kv vv uv : Value} {l : List ByteArray} {t : Tab} (h : RSl w B lv kv vv uv l t) (hb : Below C w w') (hf : ∀ q, lv.ownBlock = some q ∨ kv.ownBlock = some q ∨ vv.ownBlock = some q ∨ uv.ownBlock = some q → q < C) : RSl w' B lv kv vv uv l t :=
  ⟨own_same h.l (fun q _ hx => hb.block q (hf q (Or.inl hx))), own_same h.k (fun q _ hx => hb.block q (hf q (Or.inr (Or.inl hx)))), own_same h.v (fun q _ hx => hb.block q (hf q (Or.inr (Or.inr (Or.inl hx))))), own_same h.u (fun q _ hx => hb.block q (hf q (Or.inr (Or.inr (Or.inr hx))))), h.ne⟩
theorem lay_gap {seed : Int} {t T0 : Tab} {l : List (ByteArray × Int)} (n : Nat) (hl : t.length = n) (h0 : T0.length = n) (hc : cn t + l.length = cn T0) (hg : cn T0 < n) (j : Nat) (hj : j ≤ l.length) : ∃ i, i < (layAll (HH seed) t (l.take j)).length ∧ occ (layAll (HH seed) t (l.take j)) i = false := by
  have hl2 : (l.take j).length = j := by rw [List.length_take]; omega
  apply cn_gap
  rw [layAll_cn, layAll_length] <;> omega
theorem clearC_step {t : Tab} {k f : Nat} {e : ByteArray × Int} (h : pl t k = some e) : clearC t k (f + 1) = ((clearC (t.set (k % t.length) none) (k + 1) f).1, e :: (clearC (t.set (k % t.length) none) (k + 1) f).2) := by
  conv => lhs; unfold clearC
  rw [h]
theorem clearC_stop {t : Tab} {k f : Nat} (h : pl t k = none) : clearC t k (f + 1) = (t, []) := by
  unfold clearC
  rw [h]
theorem mod_apart {i s u n : Nat} (h1 : s < u) (h2 : u - s < n) : (i + u) % n ≠ (i + s) % n := fun e => by
  have h3 := Nat.sub_mod_eq_zero_of_mod_eq e
  rw [show i + u - (i + s) = u - s by omega, Nat.mod_eq_of_lt h2] at h3
  omega
set_option maxHeartbeats 8000000 in
set_option maxRecDepth 100000 in
theorem removeI_any (v : Value) (b : Buf) (B : Nat) (i : Nat) (hwf : Wf (HH b.seed) b.t) (hsh : Short b.t) (hi : i < b.t.length) (hoc : occ b.t i = true) (hn : b.t.length ≤ 100000) (w : World) (h : RAt w B v b) :
    Calls Try.prog 87 #[v, .int .i64 (i : Int)] w fun e w' => e = .returned v ∧ RAt w' B v { b with t := removeT (HH b.seed) b.t i } ∧ RKept v w w' := by
  obtain ⟨lv, kv, vv, uv, rfl, hr⟩ := h
  obtain ⟨A1, c1, rfl, -⟩ := own_col hr.l
  obtain ⟨p2, c2, p3, c3, p4, c4, rfl, rfl, rfl, hb2, hb3, hb4⟩ := hr.tab (by omega)
  have HRR := Lib.hid (removeR_eq (HH b.seed) hwf hi hoc)
  have hcnt : cn (b.t.set i none) < b.t.length := by
    have h9 := cn_set (t := b.t) hi none
    rw [hoc] at h9
    have := cn_le b.t
    simp at h9; omega
  obtain ⟨m, hm1, hmid⟩ := Mid.start (HH b.seed) hwf hi hoc
  have HR := Lib.hid hr
  obtain ⟨kd, l0, seed, t⟩ := b
  simp only at HR hn hb2 hb3 hb4 hi hoc hsh hwf HRR hmid hcnt ⊢
  obtain ⟨dd, hdd⟩ : ∃ dd, dd = isD ⟨kd, l0, seed, t⟩ := ⟨_, rfl⟩
  have HDD : Hid (dd = isD ⟨kd, l0, seed, removeT (HH seed) t i⟩) := Lib.hid hdd
  rw [← hdd]
  obtain ⟨T0, hT0⟩ : ∃ T0, T0 = t.set i none := ⟨_, rfl⟩
  have hTl : T0.length = t.length := by rw [hT0]; simp
  have HSS : Hid (Short T0) := Lib.hid (by rw [hT0]; exact hsh.set hi (o := none) (by decide))
  rw [← hT0] at hmid hcnt
  have hmn : m < t.length := by have := hmid.m1; omega
  have HTOP := Lib.hid hmid.top
  have HFULL := Lib.hid hmid.full
  obtain ⟨n, hnn⟩ : ∃ n, n = t.length := ⟨_, rfl⟩
  have HN := Lib.hid hnn
  have HRM : Hid (layAll (HH seed) (clearC T0 (i + 1) n).1 (clearC T0 (i + 1) n).2 = removeT (HH seed) t i) := Lib.hid (by rw [← HRR.out, hT0, hnn]; rfl)
  rw [← hnn] at hn HR hi hmn hTl hcnt ⊢
  have HT0 := Lib.hid hT0
  have HTL0 := Lib.hid hTl
  have HCT := Lib.hid hcnt
  obtain ⟨nl, hnl⟩ : ∃ n, n = l0.length := ⟨_, rfl⟩
  rw [← hnl] at HR ⊢
  have hin := hi
  clear hr hdd hnn hnl hmid hoc hsh hwf HRR hT0 hTl hcnt
  go_enter Try.func87, Try.ntmps87
  go_upto_region 1 with (fail)
  have hb0 := (Below.refl w.heap.size w).alloc (Nat.le_refl _) (.cells (rcells (.slice A1 nl c1) seed (.slice (some ⟨p2, 0, none⟩) n c2) (.slice (some ⟨p3, 0, none⟩) n c3) (.slice (some ⟨p4, 0, none⟩) n c4) dd) 105)
  have hb1 := hb0.alloc (by simp) (.cells noR 105)
  refine wp_world (fun W => Below w.heap.size w W ∧ W.heap[w.heap.size]? = some (.cells (rcells (.slice A1 nl c1) seed (.slice (some ⟨p2, 0, none⟩) n c2) (.slice (some ⟨p3, 0, none⟩) n c3) (.slice (some ⟨p4, 0, none⟩) n c4) dd) 105 (0, 0)) ∧ W.heap[w.heap.size + 1]? = some (.cells noR 105 (0, 0))) ⟨hb1, ha_old (ha_new rfl), ha_new (by simp)⟩ ?_
  clear hb0 hb1
  rintro W ⟨hb, g1, g2⟩
  obtain ⟨-, -, y2, y3, y4, -⟩ := rc_cell g1
  have L2 := (HR.out.k.lt p2 rfl).2
  have L3 := (HR.out.v.lt p3 rfl).2
  have L4 := (HR.out.u.lt p4 rfl).2
  have LL := own_lt HR.out.l
  have LW := heap_lt g2
  have HFL : Hid (∀ q, (Value.slice A1 nl c1).ownBlock = some q ∨ (Value.slice (some ⟨p2, 0, none⟩) n c2).ownBlock = some q ∨ (Value.slice (some ⟨p3, 0, none⟩) n c3).ownBlock = some q ∨ (Value.slice (some ⟨p4, 0, none⟩) n c4).ownBlock = some q → q < w.heap.size + 2) := Lib.hid (by
    rintro q (hq | hq | hq | hq)
    · have := LL q hq; omega
    · have e : p2 = q := Option.some.inj hq
      omega
    · have e : p3 = q := Option.some.inj hq
      omega
    · have e : p4 = q := Option.some.inj hq
      omega)
  have ng : w.heap.size ∉ [p2, p3, p4] := by simp; omega
  have ng2 : w.heap.size + 1 ∉ [p2, p3, p4] := by simp; omega
  have HPB : Hid (∀ q ∈ [p2, p3, p4], q < w.heap.size + 2) := Lib.hid (by intro q hq; simp at hq; omega)
  replace HR := Lib.hid (HR.out.below hb)
  have HG1 := Lib.hid g1
  have HG2 := Lib.hid g2
  have HB := Lib.hid hb
  have hrd := HR.out.below (Below.refl _ W).drew
  have hset := RSl.set HN.out hrd i none
  have hk0 := hrd.k
  have hv0 := hrd.v
  have hu0 := hrd.u
  rw [← HN.out] at hk0 hv0 hu0
  have hv1 := own_other hv0 hk0 (by decide) i (.string ⟨#[]⟩)
  have hu1 := own_other hu0 hk0 (by decide) i (.string ⟨#[]⟩)
  have hu2 := own_other hu1 hv1 (by decide) i (.int .i64 0)
  have t2 := own_th hk0 hin
  have f2 := hk0.frozenAt i
  have t3 := own_th hv1 hin
  have f3 := hv1.frozenAt i
  have t4 := own_th hu2 hin
  have f4 := hu2.frozenAt i
  have HSET := Lib.hid hset
  clear hset hk0 hv0 hu0 hv1 hu1 hu2
  clear hb g1 g2 hrd LL
  refine wp_region_held_drew (S := Kept [p2, p3, p4] W) mixed (Kept.drew [p2, p3, p4] W) (fun hS => ?_)
  refine hk3 (i := 0) rfl (by kernel_rfl) Zh hS rfl (fun K hK => ?_); go_simp; refine hK _ ?_; clear hK K; try simp only [Zq]
  (refine hv3 (i := 1) rfl (by kernel_rfl) Zg hS rfl (fun w' hw' => ex_one rfl (one29 (hw'.cell y2 ng))) ?_; try simp only [Zq])
  refine hk3 (i := 2) rfl (by kernel_rfl) Zh hS rfl (fun K hK => ?_); go_simp; refine hK _ ?_; clear hK K; try simp only [Zq]
  refine hk3 (i := 3) rfl (by kernel_rfl) Zh hS rfl (fun K hK => ?_); go_simp; refine hK _ ?_; clear hK K; try simp only [Zq]
  (refine hv3 (i := 4) rfl (by kernel_rfl) Zg hS rfl (fun w' hw' => ex_one rfl (one63 (hw'.cell y3 ng))) ?_; try simp only [Zq])
  refine hk3 (i := 5) rfl (by kernel_rfl) Zh hS rfl (fun K hK => ?_); go_simp; refine hK _ ?_; clear hK K; try simp only [Zq]
  refine hk3 (i := 6) rfl (by kernel_rfl) Zh hS rfl (fun K hK => ?_); go_simp; refine hK _ ?_; clear hK K; try simp only [Zq]
  (refine hv3 (i := 7) rfl (by kernel_rfl) Zg hS rfl (fun w' hw' => ex_one rfl (one103 (hw'.cell y4 ng))) ?_; try simp only [Zq])
  refine hk3 (i := 8) rfl (by kernel_rfl) Zh hS rfl (fun K hK => ?_); go_simp; refine hK _ ?_; clear hK K; try simp only [Zq]
  refine hk3 (i := 9) rfl (by kernel_rfl) Zh hS rfl (fun K hK => ?_); go_simp; refine hK _ ?_; clear hK K; try simp only [Zq]
  refine ha_storeC (i := 10) (by kernel_rfl) rfl rfl 9 _ _ rfl p2 i (.string ⟨#[]⟩) rfl rfl (by kernel_rfl) rfl t2 f2 (hS.setCell (by simp) i _) (fun hS => ?_); try simp only [Zq]
  refine hk3 (i := 11) rfl (by kernel_rfl) Zh hS rfl (fun K hK => ?_); go_simp; refine hK _ ?_; clear hK K; try simp only [Zq]
  refine ha_storeC (i := 12) (by kernel_rfl) rfl rfl 3 _ _ rfl p3 i (.int .i64 0) rfl rfl (by kernel_rfl) rfl t3 f3 (hS.setCell (by simp) i _) (fun hS => ?_); try simp only [Zq]
  refine hk3 (i := 13) rfl (by kernel_rfl) Zh hS rfl (fun K hK => ?_); go_simp; refine hK _ ?_; clear hK K; try simp only [Zq]
  refine ha_storeC (i := 14) (by kernel_rfl) rfl rfl 4 _ _ rfl p4 i (.bool false) rfl rfl (by kernel_rfl) rfl t4 f4 (hS.setCell (by simp) i _) (fun hS => ?_); try simp only [Zq]
  refine wpAnyH_done (by kernel_rfl) ?_ _
  have HK2 := Lib.hid hS
  clear hS t2 f2 t3 f3 t4 f4 y2 y3 y4
  obtain ⟨w2, hw2⟩ : ∃ w2, w2 = (((W.drew.setCell ⟨p2, i, none⟩ (.string ⟨#[]⟩)).setCell ⟨p3, i, none⟩ (.int .i64 0)).setCell ⟨p4, i, none⟩ (.bool false)) := ⟨_, rfl⟩
  rw [← hw2] at HK2 ⊢
  have HRS : Hid (RSl w2 B (.slice A1 nl c1) (.slice (some ⟨p2, 0, none⟩) n c2) (.slice (some ⟨p3, 0, none⟩) n c3) (.slice (some ⟨p4, 0, none⟩) n c4) l0 T0) := Lib.hid (by rw [hw2, HT0.out]; exact HSET.out)
  have hg1 : Hid (w2.heap[w.heap.size]? = _) := Lib.hid ((HK2.out.block _ (heap_lt HG1.out) ng).trans HG1.out)
  have hg2 : Hid (w2.heap[w.heap.size + 1]? = _) := Lib.hid ((HK2.out.block _ (heap_lt HG2.out) ng2).trans HG2.out)
  have HKW : Hid (Kept [p2, p3, p4] w w2) := Lib.hid (((Nm.Kept.refl [p2, p3, p4] w).below HB.out).trans HK2.out)
  have HZ : Hid (((i : Int) + 1) % (n : Int) = (((i + 1) % n : Nat) : Int)) := Lib.hid (by rw [← emod_nat]; simp)
  have hne : ¬ n = 0 := by omega
  obtain ⟨-, -, y2, y3, y4, -⟩ := rc_cell hg1.out
  clear hw2 HK2 HSET HR HG1 HG2 HB y3 y4
  go_wp2_with fail
  go_loopw [5, 6, 7] (fun kx vx x wr => ∃ (s : Nat) (ts : Tab) (l : List (ByteArray × Int)), 1 ≤ s ∧ s ≤ m ∧ l.length + 1 = s ∧ x = .int .i64 (((i + s) % n : Nat) : Int) ∧ Hid (ts.length = n) ∧ Hid (∀ u, s ≤ u → u ≤ m → pl ts (i + u) = pl T0 (i + u)) ∧ Hid (clearC T0 (i + 1) n = ((clearC ts (i + s) (n + 1 - s)).1, l ++ (clearC ts (i + s) (n + 1 - s)).2)) ∧ Hid (cn ts + l.length = cn T0) ∧ Hid (∀ e ∈ l, e.1.size ≤ 1000000000) ∧ Hid (RSl wr B (.slice A1 nl c1) (.slice (some ⟨p2, 0, none⟩) n c2) (.slice (some ⟨p3, 0, none⟩) n c3) (.slice (some ⟨p4, 0, none⟩) n c4) l0 ts) ∧ Hid (wr.ownsRow (w.heap.size + 2) 9 1 kx l.length (strs (l.map Prod.fst))) ∧ Hid (wr.ownsRow (w.heap.size + 2) 3 1 vx l.length (ints (l.map Prod.snd))) ∧ Hid (Kept [p2, p3, p4] w wr) ∧ Hid (wr.heap[w.heap.size]? = some (.cells (rcells (.slice A1 nl c1) seed (.slice (some ⟨p2, 0, none⟩) n c2) (.slice (some ⟨p3, 0, none⟩) n c3) (.slice (some ⟨p4, 0, none⟩) n c4) dd) 105 (0, 0))) ∧ Hid (wr.heap[w.heap.size + 1]? = some (.cells noR 105 (0, 0)))) (fun _ _ x _ => m - ((intOf x).toNat + n - i) % n)
  case atStart =>
    refine ⟨1, T0, [], by omega, hm1, rfl, by rw [HZ.out], HTL0, Lib.hid (fun _ _ _ => rfl), Lib.hid rfl, Lib.hid rfl, Lib.hid (fun e he => by cases he), HRS, Lib.hid (own_nil _ _ _ _), Lib.hid (own_nil _ _ _ _), HKW, hg1, hg2⟩
  case round =>
    clear HRS hg1 hg2 HKW HZ y2
    obtain ⟨s, ts, l, hs1, hsm, hls, rfl, HTL, HAG, HCL, HCN, HSL, HR1, HKV, HVV, HKW, HG1, HG2⟩ := hrel
    obtain ⟨Ak, ck, rfl, -⟩ := own_col HKV.out
    obtain ⟨Av, cv, rfl, -⟩ := own_col HVV.out
    obtain ⟨j, hj⟩ : ∃ j, j = (i + s) % n := ⟨_, rfl⟩
    have hjn : j < n := by rw [hj]; exact Nat.mod_lt _ (by omega)
    have HJ := Lib.hid hj
    have hpj : pl ts j = pl ts (i + s) := by rw [hj, ← HTL.out, pl_mod]
    rw [← hj]
    clear hj
    obtain ⟨y0, y1, y2, y3, y4, y5⟩ := rc_cell HG1.out
    have hnt : n = ts.length := HTL.out.symm
    have cu : wr.cell? ⟨p4, j, none⟩ = some (.bool (eb (pl ts j))) := by
      have hu0 := HR1.out.u
      rw [← hnt] at hu0
      rw [hu0.cellAt j (by omega)]
      unfold bools
      rw [List.getElem?_map, List.getElem?_map, pl_get (by omega)]; rfl
    rw [hpj] at cu
    have HBK : Hid (w.heap.size + 2 ≤ wr.heap.size) := Lib.hid (by have := heap_lt HG2.out; omega)
    clear y0 y1 y5
    by_cases hlt : s < m
    · obtain ⟨kk, xx, hkx⟩ := occ_iff.1 (HFULL.out s hs1 hlt)
      rw [← HAG.out s (Nat.le_refl _) (by omega)] at hkx
      have HKX := Lib.hid hkx
      have ck0 : wr.cell? ⟨p2, j, none⟩ = some (.string kk) := by
        have hu0 := HR1.out.k
        rw [← hnt] at hu0
        rw [hu0.cellAt j (by omega)]
        unfold strs
        rw [List.getElem?_map, List.getElem?_map, pl_get (by omega), hpj, hkx]; rfl
      have cv0 : wr.cell? ⟨p3, j, none⟩ = some (.int .i64 xx) := by
        have hu0 := HR1.out.v
        rw [← hnt] at hu0
        rw [hu0.cellAt j (by omega)]
        unfold ints
        rw [List.getElem?_map, List.getElem?_map, pl_get (by omega), hpj, hkx]; rfl
      have HKS : Hid (kk.size ≤ 1000000000) := Lib.hid (by
        have h9 := HSS.out (i + s)
        rw [← HAG.out s (Nat.le_refl _) (by omega), hkx] at h9
        exact h9)
      rw [hkx] at cu
      obtain ⟨D, hD⟩ : ∃ D, D = (Value.slice Ak l.length ck).ownBlock.toList ++ (Value.slice Av l.length cv).ownBlock.toList := ⟨_, rfl⟩
      have HDM : Hid (∀ q, (Value.slice Ak l.length ck).ownBlock = some q ∨ (Value.slice Av l.length cv).ownBlock = some q → q ∈ D) := Lib.hid (fun q hq => by rw [hD]; simp only [List.mem_append, Option.mem_toList]; exact hq)
      have HDB : Hid (∀ q ∈ D, w.heap.size + 2 ≤ q) := Lib.hid (fun q hq => by
        rw [hD] at hq
        simp only [List.mem_append, Option.mem_toList] at hq
        rcases hq with hq | hq
        · exact (own_block HKV.out hq).1
        · exact (own_block HVV.out hq).1)
      have hgn : w.heap.size ∉ D := fun hm => by have := HDB.out _ hm; omega
      have h2n : p2 ∉ D := fun hm => by have := HDB.out _ hm; omega
      have h3n : p3 ∉ D := fun hm => by have := HDB.out _ hm; omega
      clear hD hkx hpj hnt
      go_upto_region 7 with (fail)
      clear cu y4
      refine wp_region_held_drew (S := Kept D wr) mixed (Kept.drew D wr) (fun hS => ?_)
      replace HKV := Lib.hid (own_below HKV.out (Below.refl _ wr).drew)
      replace HVV := Lib.hid (own_below HVV.out (Below.refl _ wr).drew)
      refine hk3 (i := 0) rfl (by kernel_rfl) Zh hS rfl (fun K hK => ?_); go_simp; refine hK _ ?_; clear hK K; try simp only [Zq]
      refine hk3 (i := 1) rfl (by kernel_rfl) Zh hS rfl (fun K hK => ?_); go_simp; refine hK _ ?_; clear hK K; try simp only [Zq]
      (refine hv3 (i := 2) rfl (by kernel_rfl) Zg hS rfl (fun w' hw' => ex_one rfl (one29 (hw'.cell y2 hgn))) ?_; try simp only [Zq])
      refine hk3 (i := 3) rfl (by kernel_rfl) Zh hS rfl (fun K hK => ?_); go_simp; refine hK _ ?_; clear hK K; try simp only [Zq]
      refine hk3 (i := 4) rfl (by kernel_rfl) Zh hS rfl (fun K hK => ?_); go_simp; refine hK _ ?_; clear hK K; try simp only [Zq]
      (refine hv3 (i := 5) rfl (by kernel_rfl) Zg hS rfl (fun w' hw' => ex_one rfl (one9 (hw'.cell ck0 h2n))) ?_; try simp only [Zq])
      refine hk3 (i := 8) rfl (by kernel_rfl) Zh hS rfl (fun K hK => ?_); go_simp; refine hK _ ?_; clear hK K; try simp only [Zq]
      refine hk3 (i := 9) rfl (by kernel_rfl) Zh hS rfl (fun K hK => ?_); go_simp; refine hK _ ?_; clear hK K; try simp only [Zq]
      (refine hv3 (i := 10) rfl (by kernel_rfl) Zg hS rfl (fun w' hw' => ex_one rfl (one63 (hw'.cell y3 hgn))) ?_; try simp only [Zq])
      refine hk3 (i := 11) rfl (by kernel_rfl) Zh hS rfl (fun K hK => ?_); go_simp; refine hK _ ?_; clear hK K; try simp only [Zq]
      refine hk3 (i := 12) rfl (by kernel_rfl) Zh hS rfl (fun K hK => ?_); go_simp; refine hK _ ?_; clear hK K; try simp only [Zq]
      (refine hv3 (i := 13) rfl (by kernel_rfl) Zg hS rfl (fun w' hw' => ex_one rfl (one3 (hw'.cell cv0 h3n))) ?_; try simp only [Zq])
      clear y2 y3 ck0 cv0
      refine ha_two (i := 6) (j := 14) (by kernel_rfl) ?_ ?_
      · have hbn := (Below.refl (wr.drew).heap.size (wr.drew)).alloc (Nat.le_refl _) (.cells #[.string kk] 9)
        have hSn := hS.below hbn
        refine sh_w (i := 6) rfl rfl (ex_bs29_1 (k := kk) _ rfl rfl) hSn ?_; try simp only [Zy]
        have H6 : Hid (((wr.drew).alloc (.cells #[.string kk] 9)).heap[(wr.drew).heap.size]? = some (.cells #[.string kk] 9 (0, 0))) := Lib.hid (ha_new rfl)
        replace hS := hSn
        replace HKV := Lib.hid (own_below HKV.out hbn)
        replace HVV := Lib.hid (own_below HVV.out hbn)
        skip
        generalize (wr.drew).heap.size = q6 at H6 ⊢
        generalize (wr.drew).alloc (.cells #[.string kk] 9) = wa at *
        clear hbn hSn
        refine ha_two (i := 7) (j := 14) (by kernel_rfl) ?_ ?_
        · obtain ⟨v7, wb, hr, hown, hgr, -⟩ := run_app29 29 HKV.out (strAt_one H6.out) (Nat.le_trans HBK.out hS.size) (show l.length ≤ 1000000 by omega) (show 1 ≤ 1000000 by omega)
          have hSn : Kept D wr wb := hS.grownO hgr (fun q hq => (HDM.out q (Or.inl hq)))
          refine sh_w (i := 7) rfl rfl (ex_app29 _ _ rfl rfl rfl hr) hSn ?_; try simp only [Zy]
          replace hS := hSn
          replace HVV := Lib.hid (own_grown HVV.out HKV.out (by decide) hgr)
          skip
          have HKV2 := Lib.hid hown
          clear hSn hr hown hgr HKV H6
          have hbn := (Below.refl (wb).heap.size (wb)).alloc (Nat.le_refl _) (.cells #[.int .i64 xx] 3)
          have hSn := hS.below hbn
          refine ha_do (i := 14) (by kernel_rfl) rfl rfl (ex_bs63_1 (k := xx) _ rfl rfl) hSn ?_; try simp only [Zy]
          have H14 : Hid (((wb).alloc (.cells #[.int .i64 xx] 3)).heap[(wb).heap.size]? = some (.cells #[.int .i64 xx] 3 (0, 0))) := Lib.hid (ha_new rfl)
          replace hS := hSn
          replace HKV2 := Lib.hid (own_below HKV2.out hbn)
          replace HVV := Lib.hid (own_below HVV.out hbn)
          generalize (wb).heap.size = q14 at H14 ⊢
          generalize (wb).alloc (.cells #[.int .i64 xx] 3) = wc at *
          clear hbn hSn
          obtain ⟨v15, wd, hr, hown, hgr⟩ := run_app63 63 HVV.out H14.out (Nat.le_trans HBK.out hS.size) (show l.length ≤ 1000000 by omega)
          have hSn : Kept D wr wd := hS.grownO hgr (fun q hq => (HDM.out q (Or.inr hq)))
          refine ha_do (i := 15) (by kernel_rfl) rfl rfl (ex_app _ _ rfl rfl rfl hr) hSn ?_; try simp only [Zy]
          replace hS := hSn
          replace HKV2 := Lib.hid (own_grown HKV2.out HVV.out (by decide) hgr)
          have HVV2 := Lib.hid hown
          clear hSn hr hown hgr HVV H14
          refine hk3 (i := 16) rfl (by kernel_rfl) Zh hS rfl (fun K hK => ?_); go_simp; refine hK _ ?_; clear hK K; try simp only [Zq]
          refine hk3 (i := 17) rfl (by kernel_rfl) Zh hS rfl (fun K hK => ?_); go_simp; refine hK _ ?_; clear hK K; try simp only [Zq]
          refine wpAnyH_done (by kernel_rfl) ?_ _
          have hbw := hS.toBelow HBK.out HDB.out
          have HKw : Hid (Kept [p2, p3, p4] w wd) := Lib.hid ((HKW.out).also hS (fun q hq => Or.inr (by have := HDB.out q hq; omega)))
          have HRS := Lib.hid (HR1.out.keep hbw HFL.out)
          have hg1 := (hbw.block _ (by omega)).trans HG1.out
          have hg2 := (hbw.block _ (by omega)).trans HG2.out
          have HG1 := Lib.hid hg1
          have HG2 := Lib.hid hg2
          obtain ⟨-, -, y2, y3, y4, -⟩ := rc_cell hg1
          have hrd := HRS.out.below (Below.refl _ wd).drew
          have HN2 : Hid (n = ts.length) := Lib.hid (by rw [HTL.out])
          have hset := RSl.set HN2.out hrd j none
          have hk0 := hrd.k
          have hv0 := hrd.v
          have hu0 := hrd.u
          rw [← HN2.out] at hk0 hv0 hu0
          have hv1 := own_other hv0 hk0 (by decide) j (.string ⟨#[]⟩)
          have hu1 := own_other hu0 hk0 (by decide) j (.string ⟨#[]⟩)
          have hu2 := own_other hu1 hv1 (by decide) j (.int .i64 0)
          have t2 := own_th hk0 hjn
          have f2 := hk0.frozenAt j
          have t3 := own_th hv1 hjn
          have f3 := hv1.frozenAt j
          have t4 := own_th hu2 hjn
          have f4 := hu2.frozenAt j
          have HSET := Lib.hid hset
          clear hset hk0 hv0 hu0 hv1 hu1 hu2
          clear hS hbw hg1 hg2 hrd HR1 HKW
          go_upto_region 8 with (fail)
          refine wp_region_held_drew (S := Kept [p2, p3, p4] wd) mixed (Kept.drew [p2, p3, p4] wd) (fun hS => ?_)
          refine hk3 (i := 0) rfl (by kernel_rfl) Zh hS rfl (fun K hK => ?_); go_simp; refine hK _ ?_; clear hK K; try simp only [Zq]
          (refine hv3 (i := 1) rfl (by kernel_rfl) Zg hS rfl (fun w' hw' => ex_one rfl (one29 (hw'.cell y2 ng))) ?_; try simp only [Zq])
          refine hk3 (i := 2) rfl (by kernel_rfl) Zh hS rfl (fun K hK => ?_); go_simp; refine hK _ ?_; clear hK K; try simp only [Zq]
          refine hk3 (i := 3) rfl (by kernel_rfl) Zh hS rfl (fun K hK => ?_); go_simp; refine hK _ ?_; clear hK K; try simp only [Zq]
          (refine hv3 (i := 4) rfl (by kernel_rfl) Zg hS rfl (fun w' hw' => ex_one rfl (one63 (hw'.cell y3 ng))) ?_; try simp only [Zq])
          refine hk3 (i := 5) rfl (by kernel_rfl) Zh hS rfl (fun K hK => ?_); go_simp; refine hK _ ?_; clear hK K; try simp only [Zq]
          refine hk3 (i := 6) rfl (by kernel_rfl) Zh hS rfl (fun K hK => ?_); go_simp; refine hK _ ?_; clear hK K; try simp only [Zq]
          (refine hv3 (i := 7) rfl (by kernel_rfl) Zg hS rfl (fun w' hw' => ex_one rfl (one103 (hw'.cell y4 ng))) ?_; try simp only [Zq])
          refine hk3 (i := 8) rfl (by kernel_rfl) Zh hS rfl (fun K hK => ?_); go_simp; refine hK _ ?_; clear hK K; try simp only [Zq]
          refine hk3 (i := 9) rfl (by kernel_rfl) Zh hS rfl (fun K hK => ?_); go_simp; refine hK _ ?_; clear hK K; try simp only [Zq]
          refine ha_storeC (i := 10) (by kernel_rfl) rfl rfl 9 _ _ rfl p2 j (.string ⟨#[]⟩) rfl rfl (by kernel_rfl) rfl t2 f2 (hS.setCell (by simp) j _) (fun hS => ?_); try simp only [Zq]
          refine hk3 (i := 11) rfl (by kernel_rfl) Zh hS rfl (fun K hK => ?_); go_simp; refine hK _ ?_; clear hK K; try simp only [Zq]
          refine ha_storeC (i := 12) (by kernel_rfl) rfl rfl 3 _ _ rfl p3 j (.int .i64 0) rfl rfl (by kernel_rfl) rfl t3 f3 (hS.setCell (by simp) j _) (fun hS => ?_); try simp only [Zq]
          refine hk3 (i := 13) rfl (by kernel_rfl) Zh hS rfl (fun K hK => ?_); go_simp; refine hK _ ?_; clear hK K; try simp only [Zq]
          refine ha_storeC (i := 14) (by kernel_rfl) rfl rfl 4 _ _ rfl p4 j (.bool false) rfl rfl (by kernel_rfl) rfl t4 f4 (hS.setCell (by simp) j _) (fun hS => ?_); try simp only [Zq]
          refine wpAnyH_done (by kernel_rfl) ?_ _
          have HK2 := Lib.hid hS
          clear hS t2 f2 t3 f3 t4 f4 y2 y3 y4
          obtain ⟨w8, hw2⟩ : ∃ w2, w2 = (((wd.drew.setCell ⟨p2, j, none⟩ (.string ⟨#[]⟩)).setCell ⟨p3, j, none⟩ (.int .i64 0)).setCell ⟨p4, j, none⟩ (.bool false)) := ⟨_, rfl⟩
          rw [← hw2] at HK2 ⊢
          have HSET2 : Hid (RSl w8 B (.slice A1 nl c1) (.slice (some ⟨p2, 0, none⟩) n c2) (.slice (some ⟨p3, 0, none⟩) n c3) (.slice (some ⟨p4, 0, none⟩) n c4) l0 (ts.set j none)) := Lib.hid (by rw [hw2]; exact HSET.out)
          have HKV3 := Lib.hid (own_kept HKV2.out HK2.out HPB.out)
          have HVV3 := Lib.hid (own_kept HVV2.out HK2.out HPB.out)
          have HKW3 : Hid (Kept [p2, p3, p4] w w8) := Lib.hid (HKw.out.trans HK2.out)
          have HG13 := Lib.hid ((HK2.out.block _ (heap_lt HG1.out) ng).trans HG1.out)
          have HG23 := Lib.hid ((HK2.out.block _ (heap_lt HG2.out) ng2).trans HG2.out)
          have HJ2 : Hid (((j : Int) + 1) % (n : Int) = (((i + (s + 1)) % n : Nat) : Int)) := Lib.hid (by
            rw [show (j : Int) + 1 = ((j + 1 : Nat) : Int) by simp, emod_nat, HJ.out, Nat.mod_add_mod, Nat.add_assoc])
          obtain ⟨-, -, y2, -, -, -⟩ := rc_cell HG13.out
          clear hw2 HK2 HKw HKV2 HVV2 HRS HG1 HG2 HSET HN2
          go_wp2_with fail
          go_roundw
          case rel =>
            refine ⟨s + 1, ts.set j none, l ++ [(kk, xx)], by omega, by omega, by simp; omega, by rw [HJ2.out], Lib.hid (by rw [List.length_set]; exact HTL.out), Lib.hid (fun u h1 h2 => ?_), Lib.hid ?_, Lib.hid ?_, Lib.hid (fun e he => ?_), HSET2, Lib.hid ?_, Lib.hid ?_, HKW3, HG13, HG23⟩
            · have hne2 : (i + u) % ts.length ≠ j := by rw [HTL.out, HJ.out]; exact mod_apart (by omega) (by omega)
              rw [pl_set_ne hne2]
              exact HAG.out u (by omega) h2
            · have h9 := HCL.out
              rw [show n + 1 - s = (n + 1 - (s + 1)) + 1 by omega, clearC_step HKX.out] at h9
              rw [HTL.out, ← HJ.out] at h9
              rw [h9, List.append_assoc]; rfl
            · have h9 := cn_set (t := ts) (i := j) (by rw [HTL.out]; exact hjn) none
              have ho : occ ts j = true := by rw [HJ.out, ← HTL.out, occ_mod]; unfold occ; rw [HKX.out]; rfl
              rw [ho] at h9
              have := HCN.out
              simp at h9 ⊢; omega
            · rcases List.mem_append.1 he with h1 | h1
              · exact HSL.out e h1
              · simp at h1; subst h1; exact HKS.out
            · rw [List.length_append, List.map_append]; exact HKV3.out
            · rw [List.length_append, List.map_append]; exact HVV3.out
          case measure =>
            show m - ((intOf (.int .i64 (((j : Int) + 1) % _))).toNat + n - i) % n < m - ((intOf (.int .i64 (j : Int))).toNat + n - i) % n
            rw [HJ2.out]
            simp only [intOf, Int.toNat_natCast]
            rw [off_back hin (by omega), HJ.out, off_back hin (by omega)]; omega
        · have hbn := (Below.refl (wa).heap.size (wa)).alloc (Nat.le_refl _) (.cells #[.int .i64 xx] 3)
          have hSn := hS.below hbn
          refine sh_w (i := 14) rfl rfl (ex_bs63_1 (k := xx) _ rfl rfl) hSn ?_; try simp only [Zy]
          have H14 : Hid (((wa).alloc (.cells #[.int .i64 xx] 3)).heap[(wa).heap.size]? = some (.cells #[.int .i64 xx] 3 (0, 0))) := Lib.hid (ha_new rfl)
          replace hS := hSn
          replace HKV := Lib.hid (own_below HKV.out hbn)
          replace HVV := Lib.hid (own_below HVV.out hbn)
          (replace H6 := Lib.hid (below_look hbn H6.out))
          generalize (wa).heap.size = q14 at H14 ⊢
          generalize (wa).alloc (.cells #[.int .i64 xx] 3) = wb at *
          clear hbn hSn
          obtain ⟨v7, wc, hr, hown, hgr, -⟩ := run_app29 29 HKV.out (strAt_one H6.out) (Nat.le_trans HBK.out hS.size) (show l.length ≤ 1000000 by omega) (show 1 ≤ 1000000 by omega)
          have hSn : Kept D wr wc := hS.grownO hgr (fun q hq => (HDM.out q (Or.inl hq)))
          refine ha_do (i := 7) (by kernel_rfl) rfl rfl (ex_app29 _ _ rfl rfl rfl hr) hSn ?_; try simp only [Zy]
          replace hS := hSn
          replace HVV := Lib.hid (own_grown HVV.out HKV.out (by decide) hgr)
          (replace H14 := Lib.hid (look_grown H14.out HKV.out (by decide) hgr))
          have HKV2 := Lib.hid hown
          clear hSn hr hown hgr HKV H6
          obtain ⟨v15, wd, hr, hown, hgr⟩ := run_app63 63 HVV.out H14.out (Nat.le_trans HBK.out hS.size) (show l.length ≤ 1000000 by omega)
          have hSn : Kept D wr wd := hS.grownO hgr (fun q hq => (HDM.out q (Or.inr hq)))
          refine ha_do (i := 15) (by kernel_rfl) rfl rfl (ex_app _ _ rfl rfl rfl hr) hSn ?_; try simp only [Zy]
          replace hS := hSn
          replace HKV2 := Lib.hid (own_grown HKV2.out HVV.out (by decide) hgr)
          have HVV2 := Lib.hid hown
          clear hSn hr hown hgr HVV H14
          refine hk3 (i := 16) rfl (by kernel_rfl) Zh hS rfl (fun K hK => ?_); go_simp; refine hK _ ?_; clear hK K; try simp only [Zq]
          refine hk3 (i := 17) rfl (by kernel_rfl) Zh hS rfl (fun K hK => ?_); go_simp; refine hK _ ?_; clear hK K; try simp only [Zq]
          refine wpAnyH_done (by kernel_rfl) ?_ _
          have hbw := hS.toBelow HBK.out HDB.out
          have HKw : Hid (Kept [p2, p3, p4] w wd) := Lib.hid ((HKW.out).also hS (fun q hq => Or.inr (by have := HDB.out q hq; omega)))
          have HRS := Lib.hid (HR1.out.keep hbw HFL.out)
          have hg1 := (hbw.block _ (by omega)).trans HG1.out
          have hg2 := (hbw.block _ (by omega)).trans HG2.out
          have HG1 := Lib.hid hg1
          have HG2 := Lib.hid hg2
          obtain ⟨-, -, y2, y3, y4, -⟩ := rc_cell hg1
          have hrd := HRS.out.below (Below.refl _ wd).drew
          have HN2 : Hid (n = ts.length) := Lib.hid (by rw [HTL.out])
          have hset := RSl.set HN2.out hrd j none
          have hk0 := hrd.k
          have hv0 := hrd.v
          have hu0 := hrd.u
          rw [← HN2.out] at hk0 hv0 hu0
          have hv1 := own_other hv0 hk0 (by decide) j (.string ⟨#[]⟩)
          have hu1 := own_other hu0 hk0 (by decide) j (.string ⟨#[]⟩)
          have hu2 := own_other hu1 hv1 (by decide) j (.int .i64 0)
          have t2 := own_th hk0 hjn
          have f2 := hk0.frozenAt j
          have t3 := own_th hv1 hjn
          have f3 := hv1.frozenAt j
          have t4 := own_th hu2 hjn
          have f4 := hu2.frozenAt j
          have HSET := Lib.hid hset
          clear hset hk0 hv0 hu0 hv1 hu1 hu2
          clear hS hbw hg1 hg2 hrd HR1 HKW
          go_upto_region 8 with (fail)
          refine wp_region_held_drew (S := Kept [p2, p3, p4] wd) mixed (Kept.drew [p2, p3, p4] wd) (fun hS => ?_)
          refine hk3 (i := 0) rfl (by kernel_rfl) Zh hS rfl (fun K hK => ?_); go_simp; refine hK _ ?_; clear hK K; try simp only [Zq]
          (refine hv3 (i := 1) rfl (by kernel_rfl) Zg hS rfl (fun w' hw' => ex_one rfl (one29 (hw'.cell y2 ng))) ?_; try simp only [Zq])
          refine hk3 (i := 2) rfl (by kernel_rfl) Zh hS rfl (fun K hK => ?_); go_simp; refine hK _ ?_; clear hK K; try simp only [Zq]
          refine hk3 (i := 3) rfl (by kernel_rfl) Zh hS rfl (fun K hK => ?_); go_simp; refine hK _ ?_; clear hK K; try simp only [Zq]
          (refine hv3 (i := 4) rfl (by kernel_rfl) Zg hS rfl (fun w' hw' => ex_one rfl (one63 (hw'.cell y3 ng))) ?_; try simp only [Zq])
          refine hk3 (i := 5) rfl (by kernel_rfl) Zh hS rfl (fun K hK => ?_); go_simp; refine hK _ ?_; clear hK K; try simp only [Zq]
          refine hk3 (i := 6) rfl (by kernel_rfl) Zh hS rfl (fun K hK => ?_); go_simp; refine hK _ ?_; clear hK K; try simp only [Zq]
          (refine hv3 (i := 7) rfl (by kernel_rfl) Zg hS rfl (fun w' hw' => ex_one rfl (one103 (hw'.cell y4 ng))) ?_; try simp only [Zq])
          refine hk3 (i := 8) rfl (by kernel_rfl) Zh hS rfl (fun K hK => ?_); go_simp; refine hK _ ?_; clear hK K; try simp only [Zq]
          refine hk3 (i := 9) rfl (by kernel_rfl) Zh hS rfl (fun K hK => ?_); go_simp; refine hK _ ?_; clear hK K; try simp only [Zq]
          refine ha_storeC (i := 10) (by kernel_rfl) rfl rfl 9 _ _ rfl p2 j (.string ⟨#[]⟩) rfl rfl (by kernel_rfl) rfl t2 f2 (hS.setCell (by simp) j _) (fun hS => ?_); try simp only [Zq]
          refine hk3 (i := 11) rfl (by kernel_rfl) Zh hS rfl (fun K hK => ?_); go_simp; refine hK _ ?_; clear hK K; try simp only [Zq]
          refine ha_storeC (i := 12) (by kernel_rfl) rfl rfl 3 _ _ rfl p3 j (.int .i64 0) rfl rfl (by kernel_rfl) rfl t3 f3 (hS.setCell (by simp) j _) (fun hS => ?_); try simp only [Zq]
          refine hk3 (i := 13) rfl (by kernel_rfl) Zh hS rfl (fun K hK => ?_); go_simp; refine hK _ ?_; clear hK K; try simp only [Zq]
          refine ha_storeC (i := 14) (by kernel_rfl) rfl rfl 4 _ _ rfl p4 j (.bool false) rfl rfl (by kernel_rfl) rfl t4 f4 (hS.setCell (by simp) j _) (fun hS => ?_); try simp only [Zq]
          refine wpAnyH_done (by kernel_rfl) ?_ _
          have HK2 := Lib.hid hS
          clear hS t2 f2 t3 f3 t4 f4 y2 y3 y4
          obtain ⟨w8, hw2⟩ : ∃ w2, w2 = (((wd.drew.setCell ⟨p2, j, none⟩ (.string ⟨#[]⟩)).setCell ⟨p3, j, none⟩ (.int .i64 0)).setCell ⟨p4, j, none⟩ (.bool false)) := ⟨_, rfl⟩
          rw [← hw2] at HK2 ⊢
          have HSET2 : Hid (RSl w8 B (.slice A1 nl c1) (.slice (some ⟨p2, 0, none⟩) n c2) (.slice (some ⟨p3, 0, none⟩) n c3) (.slice (some ⟨p4, 0, none⟩) n c4) l0 (ts.set j none)) := Lib.hid (by rw [hw2]; exact HSET.out)
          have HKV3 := Lib.hid (own_kept HKV2.out HK2.out HPB.out)
          have HVV3 := Lib.hid (own_kept HVV2.out HK2.out HPB.out)
          have HKW3 : Hid (Kept [p2, p3, p4] w w8) := Lib.hid (HKw.out.trans HK2.out)
          have HG13 := Lib.hid ((HK2.out.block _ (heap_lt HG1.out) ng).trans HG1.out)
          have HG23 := Lib.hid ((HK2.out.block _ (heap_lt HG2.out) ng2).trans HG2.out)
          have HJ2 : Hid (((j : Int) + 1) % (n : Int) = (((i + (s + 1)) % n : Nat) : Int)) := Lib.hid (by
            rw [show (j : Int) + 1 = ((j + 1 : Nat) : Int) by simp, emod_nat, HJ.out, Nat.mod_add_mod, Nat.add_assoc])
          obtain ⟨-, -, y2, -, -, -⟩ := rc_cell HG13.out
          clear hw2 HK2 HKw HKV2 HVV2 HRS HG1 HG2 HSET HN2
          go_wp2_with fail
          go_roundw
          case rel =>
            refine ⟨s + 1, ts.set j none, l ++ [(kk, xx)], by omega, by omega, by simp; omega, by rw [HJ2.out], Lib.hid (by rw [List.length_set]; exact HTL.out), Lib.hid (fun u h1 h2 => ?_), Lib.hid ?_, Lib.hid ?_, Lib.hid (fun e he => ?_), HSET2, Lib.hid ?_, Lib.hid ?_, HKW3, HG13, HG23⟩
            · have hne2 : (i + u) % ts.length ≠ j := by rw [HTL.out, HJ.out]; exact mod_apart (by omega) (by omega)
              rw [pl_set_ne hne2]
              exact HAG.out u (by omega) h2
            · have h9 := HCL.out
              rw [show n + 1 - s = (n + 1 - (s + 1)) + 1 by omega, clearC_step HKX.out] at h9
              rw [HTL.out, ← HJ.out] at h9
              rw [h9, List.append_assoc]; rfl
            · have h9 := cn_set (t := ts) (i := j) (by rw [HTL.out]; exact hjn) none
              have ho : occ ts j = true := by rw [HJ.out, ← HTL.out, occ_mod]; unfold occ; rw [HKX.out]; rfl
              rw [ho] at h9
              have := HCN.out
              simp at h9 ⊢; omega
            · rcases List.mem_append.1 he with h1 | h1
              · exact HSL.out e h1
              · simp at h1; subst h1; exact HKS.out
            · rw [List.length_append, List.map_append]; exact HKV3.out
            · rw [List.length_append, List.map_append]; exact HVV3.out
          case measure =>
            show m - ((intOf (.int .i64 (((j : Int) + 1) % _))).toNat + n - i) % n < m - ((intOf (.int .i64 (j : Int))).toNat + n - i) % n
            rw [HJ2.out]
            simp only [intOf, Int.toNat_natCast]
            rw [off_back hin (by omega), HJ.out, off_back hin (by omega)]; omega
      · have hbn := (Below.refl (wr.drew).heap.size (wr.drew)).alloc (Nat.le_refl _) (.cells #[.int .i64 xx] 3)
        have hSn := hS.below hbn
        refine sh_w (i := 14) rfl rfl (ex_bs63_1 (k := xx) _ rfl rfl) hSn ?_; try simp only [Zy]
        have H14 : Hid (((wr.drew).alloc (.cells #[.int .i64 xx] 3)).heap[(wr.drew).heap.size]? = some (.cells #[.int .i64 xx] 3 (0, 0))) := Lib.hid (ha_new rfl)
        replace hS := hSn
        replace HKV := Lib.hid (own_below HKV.out hbn)
        replace HVV := Lib.hid (own_below HVV.out hbn)
        skip
        generalize (wr.drew).heap.size = q14 at H14 ⊢
        generalize (wr.drew).alloc (.cells #[.int .i64 xx] 3) = wa at *
        clear hbn hSn
        have hbn := (Below.refl (wa).heap.size (wa)).alloc (Nat.le_refl _) (.cells #[.string kk] 9)
        have hSn := hS.below hbn
        refine ha_do (i := 6) (by kernel_rfl) rfl rfl (ex_bs29_1 (k := kk) _ rfl rfl) hSn ?_; try simp only [Zy]
        have H6 : Hid (((wa).alloc (.cells #[.string kk] 9)).heap[(wa).heap.size]? = some (.cells #[.string kk] 9 (0, 0))) := Lib.hid (ha_new rfl)
        replace hS := hSn
        replace HKV := Lib.hid (own_below HKV.out hbn)
        replace HVV := Lib.hid (own_below HVV.out hbn)
        (replace H14 := Lib.hid (below_look hbn H14.out))
        generalize (wa).heap.size = q6 at H6 ⊢
        generalize (wa).alloc (.cells #[.string kk] 9) = wb at *
        clear hbn hSn
        obtain ⟨v7, wc, hr, hown, hgr, -⟩ := run_app29 29 HKV.out (strAt_one H6.out) (Nat.le_trans HBK.out hS.size) (show l.length ≤ 1000000 by omega) (show 1 ≤ 1000000 by omega)
        have hSn : Kept D wr wc := hS.grownO hgr (fun q hq => (HDM.out q (Or.inl hq)))
        refine ha_do (i := 7) (by kernel_rfl) rfl rfl (ex_app29 _ _ rfl rfl rfl hr) hSn ?_; try simp only [Zy]
        replace hS := hSn
        replace HVV := Lib.hid (own_grown HVV.out HKV.out (by decide) hgr)
        (replace H14 := Lib.hid (look_grown H14.out HKV.out (by decide) hgr))
        have HKV2 := Lib.hid hown
        clear hSn hr hown hgr HKV H6
        obtain ⟨v15, wd, hr, hown, hgr⟩ := run_app63 63 HVV.out H14.out (Nat.le_trans HBK.out hS.size) (show l.length ≤ 1000000 by omega)
        have hSn : Kept D wr wd := hS.grownO hgr (fun q hq => (HDM.out q (Or.inr hq)))
        refine ha_do (i := 15) (by kernel_rfl) rfl rfl (ex_app _ _ rfl rfl rfl hr) hSn ?_; try simp only [Zy]
        replace hS := hSn
        replace HKV2 := Lib.hid (own_grown HKV2.out HVV.out (by decide) hgr)
        have HVV2 := Lib.hid hown
        clear hSn hr hown hgr HVV H14
        refine hk3 (i := 16) rfl (by kernel_rfl) Zh hS rfl (fun K hK => ?_); go_simp; refine hK _ ?_; clear hK K; try simp only [Zq]
        refine hk3 (i := 17) rfl (by kernel_rfl) Zh hS rfl (fun K hK => ?_); go_simp; refine hK _ ?_; clear hK K; try simp only [Zq]
        refine wpAnyH_done (by kernel_rfl) ?_ _
        have hbw := hS.toBelow HBK.out HDB.out
        have HKw : Hid (Kept [p2, p3, p4] w wd) := Lib.hid ((HKW.out).also hS (fun q hq => Or.inr (by have := HDB.out q hq; omega)))
        have HRS := Lib.hid (HR1.out.keep hbw HFL.out)
        have hg1 := (hbw.block _ (by omega)).trans HG1.out
        have hg2 := (hbw.block _ (by omega)).trans HG2.out
        have HG1 := Lib.hid hg1
        have HG2 := Lib.hid hg2
        obtain ⟨-, -, y2, y3, y4, -⟩ := rc_cell hg1
        have hrd := HRS.out.below (Below.refl _ wd).drew
        have HN2 : Hid (n = ts.length) := Lib.hid (by rw [HTL.out])
        have hset := RSl.set HN2.out hrd j none
        have hk0 := hrd.k
        have hv0 := hrd.v
        have hu0 := hrd.u
        rw [← HN2.out] at hk0 hv0 hu0
        have hv1 := own_other hv0 hk0 (by decide) j (.string ⟨#[]⟩)
        have hu1 := own_other hu0 hk0 (by decide) j (.string ⟨#[]⟩)
        have hu2 := own_other hu1 hv1 (by decide) j (.int .i64 0)
        have t2 := own_th hk0 hjn
        have f2 := hk0.frozenAt j
        have t3 := own_th hv1 hjn
        have f3 := hv1.frozenAt j
        have t4 := own_th hu2 hjn
        have f4 := hu2.frozenAt j
        have HSET := Lib.hid hset
        clear hset hk0 hv0 hu0 hv1 hu1 hu2
        clear hS hbw hg1 hg2 hrd HR1 HKW
        go_upto_region 8 with (fail)
        refine wp_region_held_drew (S := Kept [p2, p3, p4] wd) mixed (Kept.drew [p2, p3, p4] wd) (fun hS => ?_)
        refine hk3 (i := 0) rfl (by kernel_rfl) Zh hS rfl (fun K hK => ?_); go_simp; refine hK _ ?_; clear hK K; try simp only [Zq]
        (refine hv3 (i := 1) rfl (by kernel_rfl) Zg hS rfl (fun w' hw' => ex_one rfl (one29 (hw'.cell y2 ng))) ?_; try simp only [Zq])
        refine hk3 (i := 2) rfl (by kernel_rfl) Zh hS rfl (fun K hK => ?_); go_simp; refine hK _ ?_; clear hK K; try simp only [Zq]
        refine hk3 (i := 3) rfl (by kernel_rfl) Zh hS rfl (fun K hK => ?_); go_simp; refine hK _ ?_; clear hK K; try simp only [Zq]
        (refine hv3 (i := 4) rfl (by kernel_rfl) Zg hS rfl (fun w' hw' => ex_one rfl (one63 (hw'.cell y3 ng))) ?_; try simp only [Zq])
        refine hk3 (i := 5) rfl (by kernel_rfl) Zh hS rfl (fun K hK => ?_); go_simp; refine hK _ ?_; clear hK K; try simp only [Zq]
        refine hk3 (i := 6) rfl (by kernel_rfl) Zh hS rfl (fun K hK => ?_); go_simp; refine hK _ ?_; clear hK K; try simp only [Zq]
        (refine hv3 (i := 7) rfl (by kernel_rfl) Zg hS rfl (fun w' hw' => ex_one rfl (one103 (hw'.cell y4 ng))) ?_; try simp only [Zq])
        refine hk3 (i := 8) rfl (by kernel_rfl) Zh hS rfl (fun K hK => ?_); go_simp; refine hK _ ?_; clear hK K; try simp only [Zq]
        refine hk3 (i := 9) rfl (by kernel_rfl) Zh hS rfl (fun K hK => ?_); go_simp; refine hK _ ?_; clear hK K; try simp only [Zq]
        refine ha_storeC (i := 10) (by kernel_rfl) rfl rfl 9 _ _ rfl p2 j (.string ⟨#[]⟩) rfl rfl (by kernel_rfl) rfl t2 f2 (hS.setCell (by simp) j _) (fun hS => ?_); try simp only [Zq]
        refine hk3 (i := 11) rfl (by kernel_rfl) Zh hS rfl (fun K hK => ?_); go_simp; refine hK _ ?_; clear hK K; try simp only [Zq]
        refine ha_storeC (i := 12) (by kernel_rfl) rfl rfl 3 _ _ rfl p3 j (.int .i64 0) rfl rfl (by kernel_rfl) rfl t3 f3 (hS.setCell (by simp) j _) (fun hS => ?_); try simp only [Zq]
        refine hk3 (i := 13) rfl (by kernel_rfl) Zh hS rfl (fun K hK => ?_); go_simp; refine hK _ ?_; clear hK K; try simp only [Zq]
        refine ha_storeC (i := 14) (by kernel_rfl) rfl rfl 4 _ _ rfl p4 j (.bool false) rfl rfl (by kernel_rfl) rfl t4 f4 (hS.setCell (by simp) j _) (fun hS => ?_); try simp only [Zq]
        refine wpAnyH_done (by kernel_rfl) ?_ _
        have HK2 := Lib.hid hS
        clear hS t2 f2 t3 f3 t4 f4 y2 y3 y4
        obtain ⟨w8, hw2⟩ : ∃ w2, w2 = (((wd.drew.setCell ⟨p2, j, none⟩ (.string ⟨#[]⟩)).setCell ⟨p3, j, none⟩ (.int .i64 0)).setCell ⟨p4, j, none⟩ (.bool false)) := ⟨_, rfl⟩
        rw [← hw2] at HK2 ⊢
        have HSET2 : Hid (RSl w8 B (.slice A1 nl c1) (.slice (some ⟨p2, 0, none⟩) n c2) (.slice (some ⟨p3, 0, none⟩) n c3) (.slice (some ⟨p4, 0, none⟩) n c4) l0 (ts.set j none)) := Lib.hid (by rw [hw2]; exact HSET.out)
        have HKV3 := Lib.hid (own_kept HKV2.out HK2.out HPB.out)
        have HVV3 := Lib.hid (own_kept HVV2.out HK2.out HPB.out)
        have HKW3 : Hid (Kept [p2, p3, p4] w w8) := Lib.hid (HKw.out.trans HK2.out)
        have HG13 := Lib.hid ((HK2.out.block _ (heap_lt HG1.out) ng).trans HG1.out)
        have HG23 := Lib.hid ((HK2.out.block _ (heap_lt HG2.out) ng2).trans HG2.out)
        have HJ2 : Hid (((j : Int) + 1) % (n : Int) = (((i + (s + 1)) % n : Nat) : Int)) := Lib.hid (by
          rw [show (j : Int) + 1 = ((j + 1 : Nat) : Int) by simp, emod_nat, HJ.out, Nat.mod_add_mod, Nat.add_assoc])
        obtain ⟨-, -, y2, -, -, -⟩ := rc_cell HG13.out
        clear hw2 HK2 HKw HKV2 HVV2 HRS HG1 HG2 HSET HN2
        go_wp2_with fail
        go_roundw
        case rel =>
          refine ⟨s + 1, ts.set j none, l ++ [(kk, xx)], by omega, by omega, by simp; omega, by rw [HJ2.out], Lib.hid (by rw [List.length_set]; exact HTL.out), Lib.hid (fun u h1 h2 => ?_), Lib.hid ?_, Lib.hid ?_, Lib.hid (fun e he => ?_), HSET2, Lib.hid ?_, Lib.hid ?_, HKW3, HG13, HG23⟩
          · have hne2 : (i + u) % ts.length ≠ j := by rw [HTL.out, HJ.out]; exact mod_apart (by omega) (by omega)
            rw [pl_set_ne hne2]
            exact HAG.out u (by omega) h2
          · have h9 := HCL.out
            rw [show n + 1 - s = (n + 1 - (s + 1)) + 1 by omega, clearC_step HKX.out] at h9
            rw [HTL.out, ← HJ.out] at h9
            rw [h9, List.append_assoc]; rfl
          · have h9 := cn_set (t := ts) (i := j) (by rw [HTL.out]; exact hjn) none
            have ho : occ ts j = true := by rw [HJ.out, ← HTL.out, occ_mod]; unfold occ; rw [HKX.out]; rfl
            rw [ho] at h9
            have := HCN.out
            simp at h9 ⊢; omega
          · rcases List.mem_append.1 he with h1 | h1
            · exact HSL.out e h1
            · simp at h1; subst h1; exact HKS.out
          · rw [List.length_append, List.map_append]; exact HKV3.out
          · rw [List.length_append, List.map_append]; exact HVV3.out
        case measure =>
          show m - ((intOf (.int .i64 (((j : Int) + 1) % _))).toNat + n - i) % n < m - ((intOf (.int .i64 (j : Int))).toNat + n - i) % n
          rw [HJ2.out]
          simp only [intOf, Int.toNat_natCast]
          rw [off_back hin (by omega), HJ.out, off_back hin (by omega)]; omega
    · obtain rfl : s = m := by omega
      have htop : pl ts (i + s) = none := by
        have h9 := HTOP.out
        unfold occ at h9
        rw [← HAG.out s (Nat.le_refl _) (Nat.le_refl _)] at h9
        simpa using h9
      have HRM2 : Hid (layAll (HH seed) ts l = removeT (HH seed) t i) := Lib.hid (by
        have h9 := HCL.out
        rw [show n + 1 - s = (n - s) + 1 by omega, clearC_stop htop] at h9
        rw [← HRM.out, h9]; simp)
      rw [htop, show eb none = false from rfl] at cu
      have hone := HR1.out.one seed dd
      obtain ⟨VC, hVC⟩ : ∃ VC, VC = rcells (.slice A1 nl c1) seed (.slice (some ⟨p2, 0, none⟩) n c2) (.slice (some ⟨p3, 0, none⟩) n c3) (.slice (some ⟨p4, 0, none⟩) n c4) dd := ⟨_, rfl⟩
      have HVZ : Hid (VC.size = 6) := Lib.hid (by rw [hVC]; rfl)
      have HVO : Hid (VC.all (·.oneCell') = true) := Lib.hid (by rw [hVC]; exact hone)
      have HVF : Hid (∀ q, RFoot (.agg VC) q → q ∈ [p2, p3, p4]) := Lib.hid (fun q hq => by
        rw [hVC] at hq
        have h9 := mem_footR.2 hq
        unfold footR at h9
        simpa [Value.ownBlock] using h9)
      have HVF2 : Hid (∀ q, q ∈ [p2, p3, p4] → RFoot (.agg VC) q) := Lib.hid (fun q hq => by
        rw [hVC]
        apply mem_footR.1
        unfold footR
        simpa [Value.ownBlock] using hq)
      have HRA : Hid (RAt wr B (.agg VC) ⟨kd, l0, seed, layAll (HH seed) ts (l.take 0)⟩) := Lib.hid (by
        rw [hVC]
        refine ⟨_, _, _, _, by rw [show dd = isD ⟨kd, l0, seed, layAll (HH seed) ts (l.take 0)⟩ from HDD.out], HR1.out⟩)
      rw [← hVC] at HG1 ⊢
      have HVR := Lib.hid hVC
      clear hVC hone htop hpj hnt HR1 HCL HAG y3
      go_wp2_with fail
      clear cu y2 y4
      go_loopw [8] (fun x wr2 => ∃ c : Nat, c ≤ l.length ∧ x = .int .i64 (c : Int) ∧ Hid (RAt wr2 B (.agg VC) ⟨kd, l0, seed, layAll (HH seed) ts (l.take c)⟩) ∧ Hid (wr2.ownsRow (w.heap.size + 2) 9 1 (.slice Ak l.length ck) l.length (strs (l.map Prod.fst))) ∧ Hid (wr2.ownsRow (w.heap.size + 2) 3 1 (.slice Av l.length cv) l.length (ints (l.map Prod.snd))) ∧ Hid (Kept [p2, p3, p4] w wr2) ∧ Hid (wr2.heap[w.heap.size]? = some (.cells VC 105 (0, 0))) ∧ Hid (wr2.heap[w.heap.size + 1]? = some (.cells noR 105 (0, 0)))) (fun x _ => l.length - (intOf x).toNat)
      case atStart => exact ⟨0, by omega, rfl, HRA, HKV, HVV, HKW, HG1, HG2⟩
      case round =>
        clear HRA HKV HVV HKW HG1 HG2 HBK
        obtain ⟨c, hc, rfl, HRA, HKV, HVV, HKW, HG1, HG2⟩ := hrel
        by_cases hlc : c < l.length
        · have hlcI : (c : Int) < ((l.length : Nat) : Int) := by omega
          obtain ⟨e, he⟩ : ∃ e, l[c]? = some e := ⟨_, List.getElem?_eq_getElem hlc⟩
          obtain ⟨A5, c5, e5, hck⟩ := own_col HKV.out
          obtain ⟨A6, c6, e6, hcv⟩ := own_col HVV.out
          simp only [Value.slice.injEq, true_and] at e5 e6
          obtain ⟨rfl, rfl⟩ := e5
          obtain ⟨rfl, rfl⟩ := e6
          obtain ⟨pk, rfl, ck9⟩ := hck c (.string e.1) (by unfold strs; rw [List.getElem?_map, List.getElem?_map, he]; rfl)
          obtain ⟨pv, rfl, cv9⟩ := hcv c (.int .i64 e.2) (by unfold ints; rw [List.getElem?_map, List.getElem?_map, he]; rfl)
          have hpk := (own_block HKV.out (q := pk) rfl).1
          have hpv := (own_block HVV.out (q := pv) rfl).1
          have HKZ := Lib.hid (HSL.out e (List.mem_of_getElem? he))
          have HTK : Hid (layAll (HH seed) ts (l.take (c + 1)) = layT (HH seed) (layAll (HH seed) ts (l.take c)) e.1 e.2) := Lib.hid (by
            rw [List.take_add_one, he, Option.toList_some, layAll_snoc])
          have hlen : (layAll (HH seed) ts (l.take c)).length = n := by rw [layAll_length]; exact HTL.out
          have hgap := lay_gap (seed := seed) n HTL.out HTL0.out HCN.out HCT.out c hc
          have HLAY := Lib.hid (layI_any (.agg VC) ⟨kd, l0, seed, layAll (HH seed) ts (l.take c)⟩ B e.1 e.2 HKZ.out (by simp only; rw [hlen]; omega) (by simp only; rw [hlen]; omega) hgap wr.drew (HRA.out.below (Below.refl _ wr).drew))
          have hkD : pk ∉ [w.heap.size, p2, p3, p4] := by simp; omega
          have hvD : pv ∉ [w.heap.size, p2, p3, p4] := by simp; omega
          have hrD : w.heap.size + 1 ∉ [w.heap.size, p2, p3, p4] := by simp; omega
          clear hck hcv hlen hgap he
          go_upto_region 12 with (fail)
          refine wp_region_held_drew (S := Kept [w.heap.size, p2, p3, p4] wr) mixed (Kept.drew [w.heap.size, p2, p3, p4] wr) (fun hS => ?_)
          refine hk3 (i := 1) rfl (by kernel_rfl) Zh hS rfl (fun K hK => ?_); go_simp; refine hK _ ?_; clear hK K; try simp only [Zq]
          refine hk3 (i := 2) rfl (by kernel_rfl) Zh hS rfl (fun K hK => ?_); go_simp; refine hK _ ?_; clear hK K; try simp only [Zq]
          refine hk3 (i := 3) rfl (by kernel_rfl) Zh hS rfl (fun K hK => ?_); go_simp; refine hK _ ?_; clear hK K; try simp only [Zq]
          (refine hv3 (i := 4) rfl (by kernel_rfl) Zg hS rfl (fun w' hw' => ex_one rfl (one9 (hw'.cell ck9 hkD))) ?_; try simp only [Zq])
          refine hk3 (i := 5) rfl (by kernel_rfl) Zh hS rfl (fun K hK => ?_); go_simp; refine hK _ ?_; clear hK K; try simp only [Zq]
          refine hk3 (i := 6) rfl (by kernel_rfl) Zh hS rfl (fun K hK => ?_); go_simp; refine hK _ ?_; clear hK K; try simp only [Zq]
          refine hk3 (i := 7) rfl (by kernel_rfl) Zh hS rfl (fun K hK => ?_); go_simp; refine hK _ ?_; clear hK K; try simp only [Zq]
          (refine hv3 (i := 8) rfl (by kernel_rfl) Zg hS rfl (fun w' hw' => ex_one rfl (one3 (hw'.cell cv9 hvD))) ?_; try simp only [Zq])
          refine ha_do (i := 0) (by kernel_rfl) rfl rfl (ex_row rfl (row_mid (off := 0) (show wr.drew.heap[w.heap.size]? = _ from HG1.out) (D := VC) (n := 6) (by rw [← HVZ.out, Nat.zero_add]; exact Array.extract_size) u105 rfl HVZ.out info105)) hS ?_; try simp only [Zq]
          refine ha_call (i := 9) (by kernel_rfl) rfl rfl (fun K hK => ?_); go_simp; refine ⟨_, _, ⟨rfl, rfl⟩, hK _ _ ⟨_, HLAY.out, ?_⟩⟩; clear hK K; rintro e9 w9 ⟨rfl, hra9, hrk9⟩; refine ⟨_, rfl, hS.rk hrk9 (fun q hq => Or.inl (List.mem_cons_of_mem _ (HVF.out q hq))), ?_⟩; replace hS := hS.rk hrk9 (fun q hq => Or.inl (List.mem_cons_of_mem _ (HVF.out q hq))); try simp only [Zq]
          have hp79 := hrk9.look (HRA.out.below (Below.refl _ wr).drew) HG1.out
          refine ha_store (i := 10) (by kernel_rfl) rfl rfl 105 _ _ rfl w.heap.size VC rfl rfl 105 _ hp79 (by rw [info105, HVZ.out]) rfl HVO.out (hS.setRow (by simp) _) (fun hS => ?_); try simp only [Zq]
          refine wpAnyH_done (by kernel_rfl) ?_ _
          have HRA2 : Hid (RAt (w9.setRow w.heap.size VC) B (.agg VC) ⟨kd, l0, seed, layAll (HH seed) ts (l.take (c + 1))⟩) := Lib.hid (by rw [HTK.out]; exact hra9.row105 hp79 VC)
          have HG12 : Hid ((w9.setRow w.heap.size VC).heap[w.heap.size]? = some (.cells VC 105 (0, 0))) := Lib.hid (hr_new hp79)
          have HG22 := Lib.hid ((hS.block _ (heap_lt HG2.out) hrD).trans HG2.out)
          have hdd9 : ∀ q ∈ [w.heap.size, p2, p3, p4], q < w.heap.size + 2 := by intro q hq; simp at hq; omega
          have HKV2 := Lib.hid (own_kept HKV.out hS hdd9)
          have HVV2 := Lib.hid (own_kept HVV.out hS hdd9)
          have HKW2 : Hid (Kept [p2, p3, p4] w (w9.setRow w.heap.size VC)) := Lib.hid (HKW.out.also hS (fun q hq => by
            rcases List.mem_cons.1 hq with rfl | hq
            · exact Or.inr (Nat.le_refl _)
            · exact Or.inl hq))
          clear hS hdd9 hra9 hrk9 hp79 HLAY HRA HKV HVV HKW HG1 HG2 HTK ck9 cv9 hkD hvD hrD
          go_wp2_with fail
          go_roundw
          case rel => exact ⟨c + 1, by omega, by go_num, HRA2, HKV2, HVV2, HKW2, HG12, HG22⟩
          case measure => simp [intOf]; omega
        · obtain rfl : c = l.length := by omega
          have HRF : Hid (RAt wr B (.agg VC) ⟨kd, l0, seed, removeT (HH seed) t i⟩) := Lib.hid (by
            have h9 := HRA.out
            rw [List.take_length, HRM2.out] at h9
            exact h9)
          go_upto_region 13 with (fail)
          apply wp_region_lit
          ((with_reducible apply wl_rowG); exact rfl; exact rfl; exact row_mid (off := 0) HG1.out (D := VC) (n := 6) (by rw [← HVZ.out, Nat.zero_add]; exact Array.extract_size) u105 rfl HVZ.out info105)
          try simp only [Zq]
          refine wl_putG (w.heap.size + 1) VC rfl rfl 105 _ HG2.out (by rw [info105, HVZ.out]) (by rw [HVZ.out]; rfl) HVO.out ?_
          rw [put_noneA]
          have HFIN := Lib.hid (hr_new (cs := VC) HG2.out)
          have HRF2 := Lib.hid (HRF.out.row105 HG2.out VC)
          have HKF : Hid (RKept (.agg VC) w (wr.setRow (w.heap.size + 1) VC)) := Lib.hid (by
            have hk := HKW.out.setNew (p := w.heap.size + 1) (by omega) VC
            exact ⟨hk.size, fun q hq hn => hk.block q hq (fun hm => hn (HVF2.out q hm)), hk.os, hk.tape, hk.output⟩)
          clear HRF HRA HKV HVV HKW HG1 HG2
          rw [HVR.out] at HFIN ⊢
          go_wp2_with fail
          exact bodyPost_ret (res_105 rfl _ _ (w.heap.size + 1) rfl HFIN.out) rfl ⟨rfl, by rw [← HVR.out]; exact HRF2.out, by rw [← HVR.out]; exact HKF.out⟩
end Go.Proofs.Ytbhdgeoljlhmcaa
