/- A buffer changed by the document: a text appended, a text put. A buffer changed by the document: a dictionary's entry deleted, set, put. A buffer changed by the document: a dictionary's entry set, put anew. A buffer changed by the document: a list sorted. A buffer changed by the document: a text removed from a list. A buffer changed by the document: all kinds at once. The document's store: how it lies; a new one. The document's store: facts of its rows; a buffer put behind the others. A new buffer for a name, by the document. -/
import Derived.Outline
import Derived.Test.YtbhdgeoljlhmcaaQB19
import Derived.Test.YtbhdgeoljlhmcaaQB16
import Derived.Test.YtbhdgeoljlhmcaaQB11
import Derived.Test.YtbhdgeoljlhmcaaQB10
namespace Go.Proofs.Ytbhdgeoljlhmcaa
open Go.RowKit Go.Proofs.Ytbhdgeoljlhmcaa.Nm Go.Proofs.Ytbhdgeoljlhmcaa.St
set_option linter.unusedSimpArgs false
theorem res_105t {fn : Func} {p q : Tmp} (h : fn.results = #[.cell p 105, .tmp q]) (tmps : Array Value) (w : World) (g : Nat) (hp : tmps.getD p undef = .pointer (some ⟨g, 0, none⟩)) {lv kv vv uv : Value} {seed : Int} {d : Bool} {x : Value}
    (hq : tmps.getD q undef = x) (hg : w.heap[g]? = some (.cells (rcells lv seed kv vv uv d) 105 (0, 0))) : (results fn tmps).run Try.prog w = .ok (.tuple #[.agg (rcells lv seed kv vv uv d), x]) w := by
  have hp' : tmps[p]?.getD undef = .pointer (some ⟨g, 0, none⟩) := by simpa using hp
  have hq' : tmps[q]?.getD undef = x := by simpa using hq
  have l1 : (loadVar 105 ⟨g, 0, none⟩).run Try.prog w = .ok (.agg (rcells lv seed kv vv uv d)) w := by have := rowR hg; unfold RowAt at this; exact this
  unfold results
  simp [h, hp', hq', asAddr, l1, Result.andThen]
theorem own_row105 {w : World} {B e m q : Nat} {x : Value} {xs : List Value} {old : Array Value} (h : w.ownsRow B e 1 x m xs) (he : e ≠ 105) (hq : w.heap[q]? = some (.cells old 105 (0, 0))) (cs : Array Value) : (w.setRow q cs).ownsRow B e 1 x m xs :=
  own_same h (fun r hr hx => setRow_other _ _ _ _ (fun e2 => by
    obtain ⟨_, cc, hcc⟩ := own_block h hx
    rw [e2, hq] at hcc; simp only [Option.some.injEq, Obj.cells.injEq] at hcc; exact he hcc.2.1.symm))
theorem own_cell105 {w : World} {B e m q : Nat} {x : Value} {xs : List Value} {old : Array Value} (h : w.ownsRow B e 1 x m xs) (he : e ≠ 105) (hq : w.heap[q]? = some (.cells old 105 (0, 0))) (i : Nat) (v : Value) : (w.setCell ⟨q, i, none⟩ v).ownsRow B e 1 x m xs :=
  own_same h (fun r hr hx => heap_setCell_other _ _ _ _ (fun e2 => by
    obtain ⟨_, cc, hcc⟩ := own_block h hx
    rw [show r = q from e2, hq] at hcc; simp only [Option.some.injEq, Obj.cells.injEq] at hcc; exact he hcc.2.1.symm))
theorem RSl.row105 {w : World} {B q : Nat} {lv kv vv uv : Value} {l : List ByteArray} {t : Tab} {old : Array Value} (h : RSl w B lv kv vv uv l t) (hq : w.heap[q]? = some (.cells old 105 (0, 0))) (cs : Array Value) : RSl (w.setRow q cs) B lv kv vv uv l t :=
  ⟨own_row105 h.l (by decide) hq cs, own_row105 h.k (by decide) hq cs, own_row105 h.v (by decide) hq cs, own_row105 h.u (by decide) hq cs, h.ne⟩
theorem RSl.cell105 {w : World} {B q : Nat} {lv kv vv uv : Value} {l : List ByteArray} {t : Tab} {old : Array Value} (h : RSl w B lv kv vv uv l t) (hq : w.heap[q]? = some (.cells old 105 (0, 0))) (i : Nat) (v : Value) : RSl (w.setCell ⟨q, i, none⟩ v) B lv kv vv uv l t :=
  ⟨own_cell105 h.l (by decide) hq i v, own_cell105 h.k (by decide) hq i v, own_cell105 h.v (by decide) hq i v, own_cell105 h.u (by decide) hq i v, h.ne⟩
set_option maxHeartbeats 4000000 in
set_option maxRecDepth 100000 in
theorem changedI_app (v : Value) (b : Buf) (o : OpV) (B : Nat) (hk : o.kind = 3) (hn : b.t.length ≤ 100000) (hl : b.l.length ≤ 100000) (w : World) (h : RAt w B v b) :
    Calls Try.prog 68 #[v, .agg o.cells] w fun e w' => ∃ v', e = .returned (.tuple #[v', .bool true]) ∧ RAt w' w.heap.size v' { b with l := b.l ++ [o.key] } ∧ Below w.heap.size w w' := by
  obtain ⟨lv0, kv0, vv0, uv0, rfl, hr0⟩ := h
  have HR0 := Lib.hid hr0
  obtain ⟨ok, ofr, oto, oat, on, okey⟩ := o
  simp only at hk
  subst hk
  obtain ⟨kd, l, seed, t⟩ := b
  simp only at HR0 hn hl ⊢
  obtain ⟨dd, hdd⟩ : ∃ dd, dd = isD ⟨kd, l, seed, t⟩ := ⟨_, rfl⟩
  have HDD : Hid (∀ l' t', dd = isD ⟨kd, l', seed, t'⟩) := Lib.hid (fun _ _ => hdd)
  rw [← hdd]
  obtain ⟨OC, hOC⟩ : ∃ OC, OC = OpV.cells ⟨3, ofr, oto, oat, on, okey⟩ := ⟨_, rfl⟩
  rw [← hOC]
  have HOC := Lib.hid hOC
  clear hr0 hdd hOC
  go_enter Try.func68, Try.ntmps68
  go_upto_region 1 with (fail)
  have hb0 := (Below.refl w.heap.size w).alloc (Nat.le_refl _) (.cells (rcells lv0 seed kv0 vv0 uv0 dd) 105)
  have hb1 := hb0.alloc (by simp) (.cells OC 39)
  have hb2 := hb1.alloc (by simp; omega) (.cells noR 105)
  refine wp_world (fun W => Below w.heap.size w W ∧ W.heap[w.heap.size]? = some (.cells (rcells lv0 seed kv0 vv0 uv0 dd) 105 (0, 0)) ∧ W.heap[w.heap.size + 1]? = some (.cells OC 39 (0, 0)) ∧ W.heap[w.heap.size + 2]? = some (.cells noR 105 (0, 0))) ⟨hb2, ha_old (ha_old (ha_new rfl)), ha_old (ha_new (by simp)), ha_new (by simp)⟩ ?_
  clear hb0 hb1 hb2
  rintro W ⟨hb, g1, g2, g3⟩
  have HB := Lib.hid hb
  have L3 := heap_lt g3
  have HQ0 : Hid (∀ q, lv0.ownBlock = some q ∨ vv0.ownBlock = some q → q < w.heap.size) := Lib.hid (fun q hq => hq.elim (fun e => own_lt HR0.out.l q e) (fun e => own_lt HR0.out.v q e))
  apply wp_region_lit
  ((with_reducible apply wl_rowG); exact rfl; exact rfl; exact rowR g1)
  try simp only [Zq]
  replace HR0 := Lib.hid (HR0.out.below hb)
  have hra0 : RAt W B (.agg (rcells lv0 seed kv0 vv0 uv0 dd)) ⟨kd, l, seed, t⟩ := ⟨_, _, _, _, by rw [show dd = isD ⟨kd, l, seed, t⟩ from HDD.out _ _], HR0.out⟩
  refine wl_ck rfl (fun K hK => ?_); go_simp; refine ⟨_, _, ⟨rfl, rfl⟩, hK _ _ ⟨_, copiedI_any _ ⟨kd, l, seed, t⟩ B hn hl _ hra0, ?_⟩⟩; clear hK K; rintro e w1 ⟨v1, rfl, ⟨lv, kv, vv, uv, rfl, hr1⟩, hb1⟩; refine ⟨_, rfl, ?_⟩; simp only [Zq]
  simp only at hr1
  rw [show isD ⟨kd, l, seed, t⟩ = dd from (HDD.out _ _).symm]
  replace g1 := below_look hb1 g1
  replace g2 := below_look hb1 g2
  replace g3 := below_look hb1 g3
  replace HR0 := Lib.hid (HR0.out.below hb1)
  have hbw := hb.trans (hb1.mono hb.size)
  have hs1 := hb1.size
  clear hb1 hra0 hb HB
  refine wl_new (fun ev w => ex_alloc105 rfl ev w) ?_
  intro W5 p7 hb5 hl5 h5
  refine wl_putG p7 (rcells lv seed kv vv uv dd) rfl rfl 105 _ h5 info105 rfl (hr1.one seed dd) ?_
  rw [put_noneA]
  have HR1 := Lib.hid ((hr1.below hb5).row105 h5 (rcells lv seed kv vv uv dd))
  replace HR0 := Lib.hid ((HR0.out.below hb5).row105 h5 (rcells lv seed kv vv uv dd))
  have h7 := hr_new (cs := rcells lv seed kv vv uv dd) h5
  have hz5 := hb5.size
  have hbz := below_setRow (hbw.trans (hb5.mono hbw.size)) (g := p7) (by omega) (rcells lv seed kv vv uv dd)
  replace g1 := hr_old (g := p7) (cs := rcells lv seed kv vv uv dd) (below_look hb5 g1) (by omega)
  replace g2 := hr_old (g := p7) (cs := rcells lv seed kv vv uv dd) (below_look hb5 g2) (by omega)
  replace g3 := hr_old (g := p7) (cs := rcells lv seed kv vv uv dd) (below_look hb5 g3) (by omega)
  have hWs : W.heap.size ≤ (W5.setRow p7 (rcells lv seed kv vv uv dd)).heap.size := by
    have h9 := (below_setRow (Below.refl 0 W5) (g := p7) (Nat.zero_le _) (rcells lv seed kv vv uv dd)).size
    omega
  have HBZ := Lib.hid hbz
  have HG1 := Lib.hid g1
  have HG3 := Lib.hid g3
  have HP7 := Lib.hid h7
  rw [HOC.out] at g2
  have HG2 := Lib.hid g2
  have hp7W : W.heap.size ≤ p7 := by omega
  clear hb5 h5 hl5 hbw hr1 hbz g1 g2 g3 h7 hz5
  generalize W5.setRow p7 (rcells lv seed kv vv uv dd) = w5 at *
  obtain ⟨o0, o1, o2, o3, o4, o5⟩ := op_cell HG2.out
  have L7 := heap_lt HP7.out
  obtain ⟨A1, c1, rfl, -⟩ := own_col HR1.out.l
  obtain ⟨y0, -, -, -, -, -⟩ := rc_cell HP7.out
  go_upto_region 4 with (fail)
  apply wp_region_lit
  refine wl_k rfl (fun K hK => ?_); go_simp; refine hK _ ?_; clear hK K
  ((with_reducible apply wl_oneG); exact rfl; exact rfl; exact one29 y0); try simp only [Zq]
  refine wl_k rfl (fun K hK => ?_); go_simp; refine hK _ ?_; clear hK K
  ((with_reducible apply wl_oneG); exact rfl; exact rfl; exact one9 o5); try simp only [Zq]
  obtain ⟨v', w6, hr, hown, hgr, hloc⟩ := run_push29 okey 29 HR1.out.l hWs (show l.length ≤ 1000000 by omega)
  refine wl_w rfl (ex_bs29_1 (k := okey) _ rfl rfl) ?_
  simp only [Zq]
  refine wl_w rfl (ex_app29 _ _ rfl rfl rfl hr) ?_
  simp only [Zq]
  have hba := (Below.refl w5.heap.size w5).alloc (Nat.le_refl _) (.cells #[.string okey] 9)
  have hra := HR1.out.below hba
  have hWw : w.heap.size ≤ W.heap.size := by omega
  have hbA := HBZ.out.alloc HBZ.out.size (.cells #[.string okey] 9)
  have hbg := hbA.grown hgr hbA.size (fun q hq => Nat.le_trans hWw (HR1.out.l.lt q hq).1)
  have hk6 : w6.ownsRow W.heap.size 9 1 kv t.length (strs (t.map ek)) := own_same hra.k (fun q hq hx => hgr.block q hq (fun e2 => hra.ne q e2.symm hx))
  have hv6 := own_grown hra.v hra.l (by decide) hgr
  have hu6 := own_grown hra.u hra.l (by decide) hgr
  have hp6 := look_grown (below_look hba HP7.out) hra.l (by decide) hgr
  have hg6 := look_grown (below_look hba HG3.out) hra.l (by decide) hgr
  have hne6 : ∀ q, v'.ownBlock = some q → kv.ownBlock ≠ some q := fun q hq hx => by
    rcases hloc with e | e
    · rw [e] at hq; exact HR1.out.ne q hq hx
    · rw [e] at hq
      have := own_lt HR1.out.k q hx
      have : w5.heap.size + 1 = q := Option.some.inj hq
      omega
  have hr6 : RSl w6 W.heap.size v' kv vv uv (l ++ [okey]) t := ⟨by rw [List.length_append]; exact hown, hk6, hv6, hu6, hne6⟩
  clear hba hra hgr hown hr hk6 hv6 hu6 hne6 hloc HR1
  refine wl_k rfl (fun K hK => ?_); go_simp; refine hK _ ?_; clear hK K
  refine wl_storeC rfl 29 _ _ rfl p7 0 v' rfl rfl (by kernel_rfl) (own_one hr6.l) (by rw [(rc_cell hp6).1]; rfl) (frozen_of_row _ _ _ _ _ hp6) ?_
  rw [put_noneA]
  have hr7 := hr6.cell105 hp6 0 v'
  have hp7' : (w6.setCell ⟨p7, 0, none⟩ v').heap[p7]? = some (.cells (rcells v' seed kv vv uv dd) 105 (0, 0)) := (hs_new hp6).trans rfl
  have hg7 : (w6.setCell ⟨p7, 0, none⟩ v').heap[w.heap.size + 2]? = _ := hs_old hg6 (show w.heap.size + 2 ≠ p7 by omega)
  have hb7 := hbg.setCell (p := ⟨p7, 0, none⟩) (show w.heap.size ≤ p7 by omega) v'
  have HR7 := Lib.hid hr7
  have HP77 := Lib.hid hp7'
  have HG7 := Lib.hid hg7
  have HB7 := Lib.hid hb7
  clear hr6 hr7 hp7' hg7 hb7 hp6 hg6 hbg HP7 HG3 y0
  generalize w6.setCell ⟨p7, 0, none⟩ v' = w7 at *
  go_upto_region 5 with (fail)
  apply wp_region_lit
  ((with_reducible apply wl_rowG); exact rfl; exact rfl; exact rowR HP77.out)
  try simp only [Zq]
  refine wl_putG (w.heap.size + 2) (rcells v' seed kv vv uv dd) rfl rfl 105 _ HG7.out info105 rfl (HR7.out.one seed dd) ?_
  rw [put_noneA]
  have HFIN := Lib.hid (hr_new (cs := rcells v' seed kv vv uv dd) HG7.out)
  have HRF := Lib.hid ((HR7.out.row105 HG7.out (rcells v' seed kv vv uv dd)).weak (show w.heap.size ≤ W.heap.size by omega))
  have HBF := Lib.hid (below_setRow HB7.out (g := w.heap.size + 2) (by omega) (rcells v' seed kv vv uv dd))
  go_wp2_with fail
  exact bodyPost_ret (res_105t rfl _ _ (w.heap.size + 2) rfl rfl HFIN.out) rfl ⟨_, rfl, ⟨_, _, _, _, by rw [HDD.out _ _], HRF.out⟩, HBF.out⟩
set_option maxHeartbeats 4000000 in
set_option maxRecDepth 100000 in
theorem changedI_put (v : Value) (b : Buf) (o : OpV) (B : Nat) (hk : o.kind = 4) (i : Nat) (ha : o.at_ = (i : Int)) (x : ByteArray) (hx : b.l[i]? = some x) (hn : b.t.length ≤ 100000) (hl : b.l.length ≤ 100000) (w : World) (h : RAt w B v b) :
    Calls Try.prog 68 #[v, .agg o.cells] w fun e w' => ∃ v', e = .returned (.tuple #[v', .bool (!decide (x = o.key))]) ∧ RAt w' w.heap.size v' { b with l := b.l.set i o.key } ∧ Below w.heap.size w w' := by
  obtain ⟨lv0, kv0, vv0, uv0, rfl, hr0⟩ := h
  have HR0 := Lib.hid hr0
  obtain ⟨ok, ofr, oto, oat, on, okey⟩ := o
  simp only at hk
  subst hk
  obtain ⟨kd, l, seed, t⟩ := b
  simp only at HR0 hn hl ⊢
  obtain ⟨dd, hdd⟩ : ∃ dd, dd = isD ⟨kd, l, seed, t⟩ := ⟨_, rfl⟩
  have HDD : Hid (∀ l' t', dd = isD ⟨kd, l', seed, t'⟩) := Lib.hid (fun _ _ => hdd)
  rw [← hdd]
  obtain ⟨OC, hOC⟩ : ∃ OC, OC = OpV.cells ⟨4, ofr, oto, oat, on, okey⟩ := ⟨_, rfl⟩
  rw [← hOC]
  have HOC := Lib.hid hOC
  clear hr0 hdd hOC
  go_enter Try.func68, Try.ntmps68
  go_upto_region 1 with (fail)
  have hb0 := (Below.refl w.heap.size w).alloc (Nat.le_refl _) (.cells (rcells lv0 seed kv0 vv0 uv0 dd) 105)
  have hb1 := hb0.alloc (by simp) (.cells OC 39)
  have hb2 := hb1.alloc (by simp; omega) (.cells noR 105)
  refine wp_world (fun W => Below w.heap.size w W ∧ W.heap[w.heap.size]? = some (.cells (rcells lv0 seed kv0 vv0 uv0 dd) 105 (0, 0)) ∧ W.heap[w.heap.size + 1]? = some (.cells OC 39 (0, 0)) ∧ W.heap[w.heap.size + 2]? = some (.cells noR 105 (0, 0))) ⟨hb2, ha_old (ha_old (ha_new rfl)), ha_old (ha_new (by simp)), ha_new (by simp)⟩ ?_
  clear hb0 hb1 hb2
  rintro W ⟨hb, g1, g2, g3⟩
  have HB := Lib.hid hb
  have L3 := heap_lt g3
  have HQ0 : Hid (∀ q, lv0.ownBlock = some q ∨ vv0.ownBlock = some q → q < w.heap.size) := Lib.hid (fun q hq => hq.elim (fun e => own_lt HR0.out.l q e) (fun e => own_lt HR0.out.v q e))
  apply wp_region_lit
  ((with_reducible apply wl_rowG); exact rfl; exact rfl; exact rowR g1)
  try simp only [Zq]
  replace HR0 := Lib.hid (HR0.out.below hb)
  have hra0 : RAt W B (.agg (rcells lv0 seed kv0 vv0 uv0 dd)) ⟨kd, l, seed, t⟩ := ⟨_, _, _, _, by rw [show dd = isD ⟨kd, l, seed, t⟩ from HDD.out _ _], HR0.out⟩
  refine wl_ck rfl (fun K hK => ?_); go_simp; refine ⟨_, _, ⟨rfl, rfl⟩, hK _ _ ⟨_, copiedI_any _ ⟨kd, l, seed, t⟩ B hn hl _ hra0, ?_⟩⟩; clear hK K; rintro e w1 ⟨v1, rfl, ⟨lv, kv, vv, uv, rfl, hr1⟩, hb1⟩; refine ⟨_, rfl, ?_⟩; simp only [Zq]
  simp only at hr1
  rw [show isD ⟨kd, l, seed, t⟩ = dd from (HDD.out _ _).symm]
  replace g1 := below_look hb1 g1
  replace g2 := below_look hb1 g2
  replace g3 := below_look hb1 g3
  replace HR0 := Lib.hid (HR0.out.below hb1)
  have hbw := hb.trans (hb1.mono hb.size)
  have hs1 := hb1.size
  clear hb1 hra0 hb HB
  refine wl_new (fun ev w => ex_alloc105 rfl ev w) ?_
  intro W5 p7 hb5 hl5 h5
  refine wl_putG p7 (rcells lv seed kv vv uv dd) rfl rfl 105 _ h5 info105 rfl (hr1.one seed dd) ?_
  rw [put_noneA]
  have HR1 := Lib.hid ((hr1.below hb5).row105 h5 (rcells lv seed kv vv uv dd))
  replace HR0 := Lib.hid ((HR0.out.below hb5).row105 h5 (rcells lv seed kv vv uv dd))
  have h7 := hr_new (cs := rcells lv seed kv vv uv dd) h5
  have hz5 := hb5.size
  have hbz := below_setRow (hbw.trans (hb5.mono hbw.size)) (g := p7) (by omega) (rcells lv seed kv vv uv dd)
  replace g1 := hr_old (g := p7) (cs := rcells lv seed kv vv uv dd) (below_look hb5 g1) (by omega)
  replace g2 := hr_old (g := p7) (cs := rcells lv seed kv vv uv dd) (below_look hb5 g2) (by omega)
  replace g3 := hr_old (g := p7) (cs := rcells lv seed kv vv uv dd) (below_look hb5 g3) (by omega)
  have hWs : W.heap.size ≤ (W5.setRow p7 (rcells lv seed kv vv uv dd)).heap.size := by
    have h9 := (below_setRow (Below.refl 0 W5) (g := p7) (Nat.zero_le _) (rcells lv seed kv vv uv dd)).size
    omega
  have HBZ := Lib.hid hbz
  have HG1 := Lib.hid g1
  have HG3 := Lib.hid g3
  have HP7 := Lib.hid h7
  rw [HOC.out] at g2
  have HG2 := Lib.hid g2
  have hp7W : W.heap.size ≤ p7 := by omega
  clear hb5 h5 hl5 hbw hr1 hbz g1 g2 g3 h7 hz5
  generalize W5.setRow p7 (rcells lv seed kv vv uv dd) = w5 at *
  obtain ⟨o0, o1, o2, o3, o4, o5⟩ := op_cell HG2.out
  have L7 := heap_lt HP7.out
  simp only at ha hx
  subst ha
  have hil : i < l.length := (List.getElem?_eq_some_iff.1 hx).1
  obtain ⟨p1, c1, rfl, hp1⟩ := own_p HR1.out.l (by omega)
  obtain ⟨p0, c0, rfl, -⟩ := own_p HR0.out.l (by omega)
  obtain ⟨y0, -, -, -, -, -⟩ := rc_cell HP7.out
  have hilI : (i : Int) < ((l.length : Nat) : Int) := by omega
  have t1 := own_th HR1.out.l hil
  have f1 := HR1.out.l.frozenAt i
  have hp0 := HQ0.out p0 (Or.inl rfl)
  have x0 : w5.cell? ⟨p0, i, none⟩ = some (.string x) := by
    rw [HR0.out.l.cellAt i (by omega)]; unfold strs; rw [List.getElem?_map, hx]; rfl
  have X0 : Hid ((w5.setCell ⟨p1, i, none⟩ (.string okey)).cell? ⟨p0, i, none⟩ = some (.string x)) := Lib.hid (by
    rw [← x0]; unfold World.cell?; rw [show (w5.setCell ⟨p1, i, none⟩ (.string okey)).heap[p0]? = w5.heap[p0]? from heap_setCell_other w5 ⟨p1, i, none⟩ p0 (.string okey) (fun e => by have : p0 = p1 := e; omega)])
  have hr7 : RSl (w5.setCell ⟨p1, i, none⟩ (.string okey)) W.heap.size (.slice (some ⟨p1, 0, none⟩) l.length c1) kv vv uv (l.set i okey) t := by
    have h9 := own_setG HR1.out.l i (.string okey)
    refine ⟨?_, own_away HR1.out.k (fun e => HR1.out.ne p1 rfl e) i _, own_other HR1.out.v HR1.out.l (by decide) i _, own_other HR1.out.u HR1.out.l (by decide) i _, HR1.out.ne⟩
    rw [List.length_set]
    rw [show (strs l).set i (.string okey) = strs (l.set i okey) by unfold strs; rw [List.map_set]] at h9
    exact h9
  have HR7 := Lib.hid hr7
  have hne105 : ∀ (g : Nat) (cs : Array Value) (t : TypeId), t ≠ 9 → w5.heap[g]? = some (.cells cs t (0, 0)) → (w5.setCell ⟨p1, i, none⟩ (.string okey)).heap[g]? = some (.cells cs t (0, 0)) := fun g cs t ht hg => hs_old hg (fun e => by
    obtain ⟨_, cd, hcd⟩ := own_block HR1.out.l (q := p1) rfl
    rw [show g = p1 from e, hcd] at hg
    simp only [Option.some.injEq, Obj.cells.injEq] at hg
    exact ht hg.2.1.symm)
  have HP77 := Lib.hid (hne105 _ _ _ (by decide) HP7.out)
  have HG17 := Lib.hid (hne105 _ _ _ (by decide) HG1.out)
  have HG27 := Lib.hid (hne105 _ _ _ (by decide) HG2.out)
  have HG37 := Lib.hid (hne105 _ _ _ (by decide) HG3.out)
  have HB7 : Hid (Below w.heap.size w (w5.setCell ⟨p1, i, none⟩ (.string okey))) := Lib.hid (HBZ.out.setCell (p := ⟨p1, i, none⟩) (show w.heap.size ≤ p1 by omega) _)
  clear x0 hr7 hne105 HBZ HR0 HR1 hx
  go_upto_region 7 with (fail)
  apply wp_region_lit
  refine wl_k rfl (fun K hK => ?_); go_simp; refine hK _ ?_; clear hK K
  ((with_reducible apply wl_oneG); exact rfl; exact rfl; exact one29 y0); try simp only [Zq]
  refine wl_k rfl (fun K hK => ?_); go_simp; refine hK _ ?_; clear hK K
  ((with_reducible apply wl_oneG); exact rfl; exact rfl; exact one3 o3); try simp only [Zq]
  refine wl_k rfl (fun K hK => ?_); go_simp; refine hK _ ?_; clear hK K
  ((with_reducible apply wl_oneG); exact rfl; exact rfl; exact one9 o5); try simp only [Zq]
  refine wl_k rfl (fun K hK => ?_); go_simp; refine hK _ ?_; clear hK K
  refine wl_storeC rfl 9 _ _ rfl p1 i (.string okey) rfl rfl (by kernel_rfl) rfl t1 f1 ?_
  rw [put_noneA]
  clear y0 o0 o1 o2 o3 o4 o5 t1 f1 HP7 HG1 HG2 HG3
  generalize w5.setCell ⟨p1, i, none⟩ (.string okey) = w7 at *
  obtain ⟨z0, -, -, -, -, -⟩ := rc_cell HG17.out
  obtain ⟨o0, o1, o2, o3, o4, o5⟩ := op_cell HG27.out
  have x0 := X0.out
  have hx7 := HP77.out
  go_upto_region 8 with (fail)
  have hg0 : w.heap.size ∉ [w.heap.size + 2] := by simp
  have hg1 : w.heap.size + 1 ∉ [w.heap.size + 2] := by simp
  have hg7 : p7 ∉ [w.heap.size + 2] := by simp; omega
  have hg00 : p0 ∉ [w.heap.size + 2] := by simp; omega
  refine wp_region_held_drew (S := Kept [w.heap.size + 2] w7) mixed (Kept.drew [w.heap.size + 2] w7) (fun hS => ?_)
  refine hv3 (i := 0) rfl (by kernel_rfl) Zg hS rfl (fun w' hw' => ex_row rfl (rowR (hw'.look hx7 (by simp <;> omega)))) ?_; try simp only [Zq]
  refine hk3 (i := 1) rfl (by kernel_rfl) Zh hS rfl (fun K hK => ?_); go_simp; refine hK _ ?_; clear hK K; try simp only [Zq]
  (refine hv3 (i := 2) rfl (by kernel_rfl) Zg hS rfl (fun w' hw' => ex_one rfl (one29 (hw'.cell z0 hg0))) ?_; try simp only [Zq])
  refine hk3 (i := 3) rfl (by kernel_rfl) Zh hS rfl (fun K hK => ?_); go_simp; refine hK _ ?_; clear hK K; try simp only [Zq]
  (refine hv3 (i := 4) rfl (by kernel_rfl) Zg hS rfl (fun w' hw' => ex_one rfl (one3 (hw'.cell o3 hg1))) ?_; try simp only [Zq])
  refine hk3 (i := 5) rfl (by kernel_rfl) Zh hS rfl (fun K hK => ?_); go_simp; refine hK _ ?_; clear hK K; try simp only [Zq]
  (refine hv3 (i := 6) rfl (by kernel_rfl) Zg hS rfl (fun w' hw' => ex_one rfl (one9 (hw'.cell x0 hg00))) ?_; try simp only [Zq])
  refine hk3 (i := 7) rfl (by kernel_rfl) Zh hS rfl (fun K hK => ?_); go_simp; refine hK _ ?_; clear hK K; try simp only [Zq]
  (refine hv3 (i := 8) rfl (by kernel_rfl) Zg hS rfl (fun w' hw' => ex_one rfl (one9 (hw'.cell o5 hg1))) ?_; try simp only [Zq])
  refine hk3 (i := 9) rfl (by kernel_rfl) Zh hS rfl (fun K hK => ?_); go_simp; refine hK _ ?_; clear hK K; try simp only [Zq]
  have hg3 := HG37.out
  refine ha_store (i := 10) (by kernel_rfl) rfl rfl 105 _ _ rfl (w.heap.size + 2) (rcells (.slice (some ⟨p1, 0, none⟩) l.length c1) seed kv vv uv dd) rfl rfl 105 _ hg3 info105 rfl (HR7.out.one seed dd) (hS.setRow (by simp) _) (fun hS => ?_); try simp only [Zq]
  refine hk3 (i := 11) rfl (by kernel_rfl) Zh hS rfl (fun K hK => ?_); go_simp; refine hK _ ?_; clear hK K; try simp only [Zq]
  refine wpAnyH_done (by kernel_rfl) ?_ _
  have HFIN := Lib.hid (hr_new (cs := rcells (.slice (some ⟨p1, 0, none⟩) l.length c1) seed kv vv uv dd) hg3)
  have HRF := Lib.hid (((HR7.out.below (Below.refl _ w7).drew).row105 hg3 (rcells (.slice (some ⟨p1, 0, none⟩) l.length c1) seed kv vv uv dd)).weak (show w.heap.size ≤ W.heap.size by omega))
  have HBF := Lib.hid (below_setRow (HB7.out.trans ((Below.refl _ w7).drew.mono HB7.out.size)) (g := w.heap.size + 2) (by omega) (rcells (.slice (some ⟨p1, 0, none⟩) l.length c1) seed kv vv uv dd))
  have HE : Hid (decide (x = okey) = (x.toList == okey.toList)) := Lib.hid (ba_beq x okey).symm
  clear hS hg3 x0 z0 o0 o1 o2 o3 o4 o5 hx7
  go_wp2_with fail
  exact bodyPost_ret (res_105t rfl _ _ (w.heap.size + 2) rfl rfl HFIN.out) rfl ⟨.agg (rcells (.slice (some ⟨p1, 0, none⟩) l.length c1) seed kv vv uv dd), by rw [HE.out]; rfl, ⟨_, _, _, _, by rw [HDD.out _ _], HRF.out⟩, HBF.out⟩
set_option maxHeartbeats 4000000 in
set_option maxRecDepth 100000 in
theorem changedI_del (v : Value) (b : Buf) (o : OpV) (B : Nat) (hk : o.kind = 10) (i : Nat) (hf : fnd b.seed b.t o.key = (i : Int)) (hwf : Wf (HH b.seed) b.t) (hsh : Short b.t) (hi : i < b.t.length) (hoc : occ b.t i = true) (hks : o.key.size ≤ 1000000000) (hn : b.t.length ≤ 100000) (hl : b.l.length ≤ 100000) (w : World) (h : RAt w B v b) :
    Calls Try.prog 68 #[v, .agg o.cells] w fun e w' => ∃ v', e = .returned (.tuple #[v', .bool true]) ∧ RAt w' w.heap.size v' { b with t := removeT (HH b.seed) b.t i } ∧ Below w.heap.size w w' := by
  obtain ⟨lv0, kv0, vv0, uv0, rfl, hr0⟩ := h
  have HR0 := Lib.hid hr0
  obtain ⟨ok, ofr, oto, oat, on, okey⟩ := o
  simp only at hk
  subst hk
  obtain ⟨kd, l, seed, t⟩ := b
  simp only at HR0 hn hl ⊢
  obtain ⟨dd, hdd⟩ : ∃ dd, dd = isD ⟨kd, l, seed, t⟩ := ⟨_, rfl⟩
  have HDD : Hid (∀ l' t', dd = isD ⟨kd, l', seed, t'⟩) := Lib.hid (fun _ _ => hdd)
  rw [← hdd]
  obtain ⟨OC, hOC⟩ : ∃ OC, OC = OpV.cells ⟨10, ofr, oto, oat, on, okey⟩ := ⟨_, rfl⟩
  rw [← hOC]
  have HOC := Lib.hid hOC
  clear hr0 hdd hOC
  go_enter Try.func68, Try.ntmps68
  go_upto_region 1 with (fail)
  have hb0 := (Below.refl w.heap.size w).alloc (Nat.le_refl _) (.cells (rcells lv0 seed kv0 vv0 uv0 dd) 105)
  have hb1 := hb0.alloc (by simp) (.cells OC 39)
  have hb2 := hb1.alloc (by simp; omega) (.cells noR 105)
  refine wp_world (fun W => Below w.heap.size w W ∧ W.heap[w.heap.size]? = some (.cells (rcells lv0 seed kv0 vv0 uv0 dd) 105 (0, 0)) ∧ W.heap[w.heap.size + 1]? = some (.cells OC 39 (0, 0)) ∧ W.heap[w.heap.size + 2]? = some (.cells noR 105 (0, 0))) ⟨hb2, ha_old (ha_old (ha_new rfl)), ha_old (ha_new (by simp)), ha_new (by simp)⟩ ?_
  clear hb0 hb1 hb2
  rintro W ⟨hb, g1, g2, g3⟩
  have HB := Lib.hid hb
  have L3 := heap_lt g3
  have HQ0 : Hid (∀ q, lv0.ownBlock = some q ∨ vv0.ownBlock = some q → q < w.heap.size) := Lib.hid (fun q hq => hq.elim (fun e => own_lt HR0.out.l q e) (fun e => own_lt HR0.out.v q e))
  apply wp_region_lit
  ((with_reducible apply wl_rowG); exact rfl; exact rfl; exact rowR g1)
  try simp only [Zq]
  replace HR0 := Lib.hid (HR0.out.below hb)
  have hra0 : RAt W B (.agg (rcells lv0 seed kv0 vv0 uv0 dd)) ⟨kd, l, seed, t⟩ := ⟨_, _, _, _, by rw [show dd = isD ⟨kd, l, seed, t⟩ from HDD.out _ _], HR0.out⟩
  refine wl_ck rfl (fun K hK => ?_); go_simp; refine ⟨_, _, ⟨rfl, rfl⟩, hK _ _ ⟨_, copiedI_any _ ⟨kd, l, seed, t⟩ B hn hl _ hra0, ?_⟩⟩; clear hK K; rintro e w1 ⟨v1, rfl, ⟨lv, kv, vv, uv, rfl, hr1⟩, hb1⟩; refine ⟨_, rfl, ?_⟩; simp only [Zq]
  simp only at hr1
  rw [show isD ⟨kd, l, seed, t⟩ = dd from (HDD.out _ _).symm]
  replace g1 := below_look hb1 g1
  replace g2 := below_look hb1 g2
  replace g3 := below_look hb1 g3
  replace HR0 := Lib.hid (HR0.out.below hb1)
  have hbw := hb.trans (hb1.mono hb.size)
  have hs1 := hb1.size
  clear hb1 hra0 hb HB
  refine wl_new (fun ev w => ex_alloc105 rfl ev w) ?_
  intro W5 p7 hb5 hl5 h5
  refine wl_putG p7 (rcells lv seed kv vv uv dd) rfl rfl 105 _ h5 info105 rfl (hr1.one seed dd) ?_
  rw [put_noneA]
  have HR1 := Lib.hid ((hr1.below hb5).row105 h5 (rcells lv seed kv vv uv dd))
  replace HR0 := Lib.hid ((HR0.out.below hb5).row105 h5 (rcells lv seed kv vv uv dd))
  have h7 := hr_new (cs := rcells lv seed kv vv uv dd) h5
  have hz5 := hb5.size
  have hbz := below_setRow (hbw.trans (hb5.mono hbw.size)) (g := p7) (by omega) (rcells lv seed kv vv uv dd)
  replace g1 := hr_old (g := p7) (cs := rcells lv seed kv vv uv dd) (below_look hb5 g1) (by omega)
  replace g2 := hr_old (g := p7) (cs := rcells lv seed kv vv uv dd) (below_look hb5 g2) (by omega)
  replace g3 := hr_old (g := p7) (cs := rcells lv seed kv vv uv dd) (below_look hb5 g3) (by omega)
  have hWs : W.heap.size ≤ (W5.setRow p7 (rcells lv seed kv vv uv dd)).heap.size := by
    have h9 := (below_setRow (Below.refl 0 W5) (g := p7) (Nat.zero_le _) (rcells lv seed kv vv uv dd)).size
    omega
  have HBZ := Lib.hid hbz
  have HG1 := Lib.hid g1
  have HG3 := Lib.hid g3
  have HP7 := Lib.hid h7
  rw [HOC.out] at g2
  have HG2 := Lib.hid g2
  have hp7W : W.heap.size ≤ p7 := by omega
  clear hb5 h5 hl5 hbw hr1 hbz g1 g2 g3 h7 hz5
  generalize W5.setRow p7 (rcells lv seed kv vv uv dd) = w5 at *
  obtain ⟨o0, o1, o2, o3, o4, o5⟩ := op_cell HG2.out
  have L7 := heap_lt HP7.out
  simp only at hf hwf hsh hi hoc hks
  obtain ⟨D, hD⟩ : ∃ D, D = (w.heap.size + 2) :: footR kv vv uv := ⟨_, rfl⟩
  have hra5 : RAt w5 W.heap.size (.agg (rcells lv seed kv vv uv dd)) ⟨kd, l, seed, t⟩ := ⟨_, _, _, _, by rw [show dd = isD ⟨kd, l, seed, t⟩ from HDD.out _ _], HR1.out⟩
  have HD : Hid (∀ q, RFoot (.agg (rcells lv seed kv vv uv dd)) q → q ∈ D) := Lib.hid (fun q hq => by rw [hD]; exact List.mem_cons_of_mem _ (mem_footR.2 hq))
  have HDB : Hid (∀ q ∈ D, w.heap.size ≤ q ∧ (q = w.heap.size + 2 ∨ RFoot (.agg (rcells lv seed kv vv uv dd)) q)) := Lib.hid (fun q hq => by
    rw [hD] at hq
    rcases List.mem_cons.1 hq with rfl | hq
    · exact ⟨by omega, Or.inl rfl⟩
    · have hq2 : RFoot (.agg (rcells lv seed kv vv uv dd)) q := mem_footR.1 hq
      exact ⟨by have := (hra5.foot hq2).1; omega, Or.inr hq2⟩)
  have h3D : Hid (w.heap.size + 2 ∈ D) := Lib.hid (by rw [hD]; exact List.mem_cons_self ..)
  have hp7D : p7 ∉ D := fun hm => by
    rcases (HDB.out _ hm).2 with e | hf
    · omega
    · obtain ⟨_, cs, t, hc, ht⟩ := hra5.foot hf
      rw [HP7.out] at hc
      simp only [Option.some.injEq, Obj.cells.injEq] at hc
      rcases ht with rfl | rfl | rfl <;> exact absurd hc.2.1 (by decide)
  have hg2D : w.heap.size + 1 ∉ D := fun hm => by
    rcases (HDB.out _ hm).2 with e | hf
    · omega
    · have := (hra5.foot hf).1; omega
  have hx7 := HP7.out
  clear hD
  go_upto_region 16 with (fail)
  refine wp_region_held_drew (S := Kept D w5) mixed (Kept.drew D w5) (fun hS => ?_)
  (refine hv3 (i := 0) rfl (by kernel_rfl) Zg hS rfl (fun w' hw' => ex_row rfl (rowR (hw'.look hx7 hp7D))) ?_; try simp only [Zq])
  (refine hv3 (i := 1) rfl (by kernel_rfl) Zg hS rfl (fun w' hw' => ex_row rfl (rowR (hw'.look hx7 hp7D))) ?_; try simp only [Zq])
  refine hk3 (i := 2) rfl (by kernel_rfl) Zh hS rfl (fun K hK => ?_); go_simp; refine hK _ ?_; clear hK K; try simp only [Zq]
  (refine hv3 (i := 3) rfl (by kernel_rfl) Zg hS rfl (fun w' hw' => ex_one rfl (one9 (hw'.cell o5 hg2D))) ?_; try simp only [Zq])
  have hrd := hra5.below (Below.refl _ w5).drew
  refine ha_call (i := 4) (by kernel_rfl) rfl rfl (fun K hK => ?_); go_simp; refine ⟨_, _, ⟨rfl, rfl⟩, hK _ _ ⟨_, findI_any _ ⟨kd, l, seed, t⟩ W.heap.size okey (Or.inr hwf) hn _ hrd, ?_⟩⟩; clear hK K; rintro e w6 ⟨rfl, hb1⟩; refine ⟨_, rfl, hS.below hb1, ?_⟩; replace hS := hS.below hb1; (replace hrd := hrd.below hb1; have hg3 := below_look hb1 (show w5.drew.heap[w.heap.size + 2]? = _ from HG3.out); have hz6 := hb1.size; clear hb1); try simp only [Zq]
  rw [show fnd seed t okey = (i : Int) from hf]
  refine ha_call (i := 5) (by kernel_rfl) rfl rfl (fun K hK => ?_); go_simp; refine ⟨_, _, ⟨rfl, rfl⟩, hK _ _ ⟨_, removeI_any _ ⟨kd, l, seed, t⟩ W.heap.size i hwf hsh hi hoc hn _ hrd, ?_⟩⟩; clear hK K; rintro e9 w9 ⟨rfl, hra9, hrk9⟩; refine ⟨_, rfl, hS.rk hrk9 (fun q hq => Or.inl (HD.out q hq)), ?_⟩; replace hS := hS.rk hrk9 (fun q hq => Or.inl (HD.out q hq)); try simp only [Zq]
  replace hg3 := hrk9.look hrd hg3
  have hone := HR1.out.one seed dd
  refine ha_store (i := 6) (by kernel_rfl) rfl rfl 105 _ _ rfl (w.heap.size + 2) (rcells lv seed kv vv uv dd) rfl rfl 105 _ hg3 info105 rfl hone (hS.setRow h3D.out _) (fun hS => ?_); try simp only [Zq]
  refine hk3 (i := 7) rfl (by kernel_rfl) Zh hS rfl (fun K hK => ?_); go_simp; refine hK _ ?_; clear hK K; try simp only [Zq]
  refine wpAnyH_done (by kernel_rfl) ?_ _
  have HFIN := Lib.hid (hr_new (cs := rcells lv seed kv vv uv dd) hg3)
  have HRF := Lib.hid ((hra9.row105 hg3 (rcells lv seed kv vv uv dd)).weak (show w.heap.size ≤ W.heap.size by omega))
  have HBF := Lib.hid (HBZ.out.trans (hS.toBelow HBZ.out.size (fun q hq => (HDB.out q hq).1)))
  clear hS hrd hra9 hrk9 hg3 hx7 o0 o1 o2 o3 o4 o5
  go_wp2_with fail
  exact bodyPost_ret (res_105t rfl _ _ (w.heap.size + 2) rfl rfl HFIN.out) rfl ⟨_, rfl, HRF.out, HBF.out⟩
theorem set_same {α : Type} (l : List α) (i : Nat) (x : α) (h : l[i]? = some x) : l.set i x = l := by
  obtain ⟨hi, he⟩ := List.getElem?_eq_some_iff.1 h
  rw [← he]; exact List.set_getElem_self hi
theorem setT_k {t : Tab} {i : Nat} {k : ByteArray} {x n : Int} (hi : i < t.length) (h : pl t i = some (k, x)) : (setT t i k n).map ek = t.map ek := by
  unfold setT
  rw [List.map_set]
  apply set_same
  rw [List.getElem?_map, pl_get hi, h]; rfl
theorem setT_u {t : Tab} {i : Nat} {k : ByteArray} {x n : Int} (hi : i < t.length) (h : pl t i = some (k, x)) : (setT t i k n).map eb = t.map eb := by
  unfold setT
  rw [List.map_set]
  apply set_same
  rw [List.getElem?_map, pl_get hi, h]; rfl
theorem setT_v {t : Tab} {i : Nat} {k : ByteArray} {n : Int} : ints ((setT t i k n).map ev) = (ints (t.map ev)).set i (.int .i64 n) := by
  unfold setT ints
  rw [List.map_set, List.map_set]; rfl
set_option maxHeartbeats 4000000 in
set_option maxRecDepth 100000 in
theorem changedI_new (v : Value) (b : Buf) (o : OpV) (B : Nat) (hk : o.kind = 9) (hf : fnd b.seed b.t o.key = -1) (hkd : b.kd = 2) (hl0 : b.l = []) (hwf : Wf (HH b.seed) b.t) (hsh : Short b.t) (hks : o.key.size ≤ 1000000000) (hn1 : 1 ≤ b.t.length) (hn2 : b.t.length ≤ 10000) (w : World) (h : RAt w B v b) :
    Calls Try.prog 68 #[v, .agg o.cells] w fun e w' => ∃ v', e = .returned (.tuple #[v', .bool true]) ∧ RAt w' w.heap.size v' { b with t := addT (HH b.seed) b.t o.key o.n } ∧ Below w.heap.size w w' := by
  have hn : b.t.length ≤ 100000 := by omega
  have hl : b.l.length ≤ 100000 := by rw [hl0]; simp
  obtain ⟨lv0, kv0, vv0, uv0, rfl, hr0⟩ := h
  have HR0 := Lib.hid hr0
  obtain ⟨ok, ofr, oto, oat, on, okey⟩ := o
  simp only at hk
  subst hk
  obtain ⟨kd, l, seed, t⟩ := b
  simp only at HR0 hn hl ⊢
  obtain ⟨dd, hdd⟩ : ∃ dd, dd = isD ⟨kd, l, seed, t⟩ := ⟨_, rfl⟩
  have HDD : Hid (∀ l' t', dd = isD ⟨kd, l', seed, t'⟩) := Lib.hid (fun _ _ => hdd)
  rw [← hdd]
  obtain ⟨OC, hOC⟩ : ∃ OC, OC = OpV.cells ⟨9, ofr, oto, oat, on, okey⟩ := ⟨_, rfl⟩
  rw [← hOC]
  have HOC := Lib.hid hOC
  clear hr0 hdd hOC
  go_enter Try.func68, Try.ntmps68
  go_upto_region 1 with (fail)
  have hb0 := (Below.refl w.heap.size w).alloc (Nat.le_refl _) (.cells (rcells lv0 seed kv0 vv0 uv0 dd) 105)
  have hb1 := hb0.alloc (by simp) (.cells OC 39)
  have hb2 := hb1.alloc (by simp; omega) (.cells noR 105)
  refine wp_world (fun W => Below w.heap.size w W ∧ W.heap[w.heap.size]? = some (.cells (rcells lv0 seed kv0 vv0 uv0 dd) 105 (0, 0)) ∧ W.heap[w.heap.size + 1]? = some (.cells OC 39 (0, 0)) ∧ W.heap[w.heap.size + 2]? = some (.cells noR 105 (0, 0))) ⟨hb2, ha_old (ha_old (ha_new rfl)), ha_old (ha_new (by simp)), ha_new (by simp)⟩ ?_
  clear hb0 hb1 hb2
  rintro W ⟨hb, g1, g2, g3⟩
  have HB := Lib.hid hb
  have L3 := heap_lt g3
  have HQ0 : Hid (∀ q, lv0.ownBlock = some q ∨ vv0.ownBlock = some q → q < w.heap.size) := Lib.hid (fun q hq => hq.elim (fun e => own_lt HR0.out.l q e) (fun e => own_lt HR0.out.v q e))
  apply wp_region_lit
  ((with_reducible apply wl_rowG); exact rfl; exact rfl; exact rowR g1)
  try simp only [Zq]
  replace HR0 := Lib.hid (HR0.out.below hb)
  have hra0 : RAt W B (.agg (rcells lv0 seed kv0 vv0 uv0 dd)) ⟨kd, l, seed, t⟩ := ⟨_, _, _, _, by rw [show dd = isD ⟨kd, l, seed, t⟩ from HDD.out _ _], HR0.out⟩
  refine wl_ck rfl (fun K hK => ?_); go_simp; refine ⟨_, _, ⟨rfl, rfl⟩, hK _ _ ⟨_, copiedI_any _ ⟨kd, l, seed, t⟩ B hn hl _ hra0, ?_⟩⟩; clear hK K; rintro e w1 ⟨v1, rfl, ⟨lv, kv, vv, uv, rfl, hr1⟩, hb1⟩; refine ⟨_, rfl, ?_⟩; simp only [Zq]
  simp only at hr1
  rw [show isD ⟨kd, l, seed, t⟩ = dd from (HDD.out _ _).symm]
  replace g1 := below_look hb1 g1
  replace g2 := below_look hb1 g2
  replace g3 := below_look hb1 g3
  replace HR0 := Lib.hid (HR0.out.below hb1)
  have hbw := hb.trans (hb1.mono hb.size)
  have hs1 := hb1.size
  clear hb1 hra0 hb HB
  refine wl_new (fun ev w => ex_alloc105 rfl ev w) ?_
  intro W5 p7 hb5 hl5 h5
  refine wl_putG p7 (rcells lv seed kv vv uv dd) rfl rfl 105 _ h5 info105 rfl (hr1.one seed dd) ?_
  rw [put_noneA]
  have HR1 := Lib.hid ((hr1.below hb5).row105 h5 (rcells lv seed kv vv uv dd))
  replace HR0 := Lib.hid ((HR0.out.below hb5).row105 h5 (rcells lv seed kv vv uv dd))
  have h7 := hr_new (cs := rcells lv seed kv vv uv dd) h5
  have hz5 := hb5.size
  have hbz := below_setRow (hbw.trans (hb5.mono hbw.size)) (g := p7) (by omega) (rcells lv seed kv vv uv dd)
  replace g1 := hr_old (g := p7) (cs := rcells lv seed kv vv uv dd) (below_look hb5 g1) (by omega)
  replace g2 := hr_old (g := p7) (cs := rcells lv seed kv vv uv dd) (below_look hb5 g2) (by omega)
  replace g3 := hr_old (g := p7) (cs := rcells lv seed kv vv uv dd) (below_look hb5 g3) (by omega)
  have hWs : W.heap.size ≤ (W5.setRow p7 (rcells lv seed kv vv uv dd)).heap.size := by
    have h9 := (below_setRow (Below.refl 0 W5) (g := p7) (Nat.zero_le _) (rcells lv seed kv vv uv dd)).size
    omega
  have HBZ := Lib.hid hbz
  have HG1 := Lib.hid g1
  have HG3 := Lib.hid g3
  have HP7 := Lib.hid h7
  rw [HOC.out] at g2
  have HG2 := Lib.hid g2
  have hp7W : W.heap.size ≤ p7 := by omega
  clear hb5 h5 hl5 hbw hr1 hbz g1 g2 g3 h7 hz5
  generalize W5.setRow p7 (rcells lv seed kv vv uv dd) = w5 at *
  obtain ⟨o0, o1, o2, o3, o4, o5⟩ := op_cell HG2.out
  have L7 := heap_lt HP7.out
  simp only at hf hwf hsh hks hn1 hn2 hkd hl0
  have hra5 : RAt w5 W.heap.size (.agg (rcells lv seed kv vv uv dd)) ⟨kd, l, seed, t⟩ := ⟨_, _, _, _, by rw [show dd = isD ⟨kd, l, seed, t⟩ from HDD.out _ _], HR1.out⟩
  have hx7 := HP7.out
  go_upto_region 17 with (fail)
  apply wp_region_lit
  ((with_reducible apply wl_rowG); exact rfl; exact rfl; exact rowR hx7); try simp only [Zq]
  refine wl_k rfl (fun K hK => ?_); go_simp; refine hK _ ?_; clear hK K
  ((with_reducible apply wl_oneG); exact rfl; exact rfl; exact one9 o5); try simp only [Zq]
  refine wl_ck rfl (fun K hK => ?_); go_simp; refine ⟨_, _, ⟨rfl, rfl⟩, hK _ _ ⟨_, findI_any _ ⟨kd, l, seed, t⟩ W.heap.size okey (Or.inr hwf) hn _ hra5, ?_⟩⟩; clear hK K; rintro e w6 ⟨rfl, hb6⟩; refine ⟨_, rfl, ?_⟩; simp only [Zq]
  rw [show fnd seed t okey = -1 from hf]
  refine wl_k rfl (fun K hK => ?_); go_simp; refine hK _ ?_; clear hK K
  clear o0 o1 o2 o3 o4 o5 hx7
  have hra6 := hra5.below hb6
  have hg2 := below_look hb6 HG2.out
  have hg3 := below_look hb6 HG3.out
  have hx7 := below_look hb6 HP7.out
  have hbz6 := HBZ.out.trans (hb6.mono HBZ.out.size)
  have hz6 : W.heap.size ≤ w6.heap.size := Nat.le_trans hWs hb6.size
  have HG36 := Lib.hid hg3
  have HB6 := Lib.hid hbz6
  obtain ⟨o0, o1, o2, o3, o4, o5⟩ := op_cell hg2
  clear hb6 hra5 hbz6 hg3 HG1 HG2 HG3 HP7 HBZ HR0 HR1
  go_upto_region 21 with (fail)
  apply wp_region_lit
  ((with_reducible apply wl_rowG); exact rfl; exact rfl; exact rowR hx7); try simp only [Zq]
  refine wl_k rfl (fun K hK => ?_); go_simp; refine hK _ ?_; clear hK K
  ((with_reducible apply wl_oneG); exact rfl; exact rfl; exact one9 o5); try simp only [Zq]
  refine wl_k rfl (fun K hK => ?_); go_simp; refine hK _ ?_; clear hK K
  ((with_reducible apply wl_oneG); exact rfl; exact rfl; exact one3 o4); try simp only [Zq]
  refine wl_ck rfl (fun K hK => ?_); go_simp; refine ⟨_, _, ⟨rfl, rfl⟩, hK _ _ ⟨_, putI_any _ ⟨kd, l, seed, t⟩ W.heap.size okey on hkd hl0 hks hn1 hn2 hwf hsh _ hz6 hra6, ?_⟩⟩; clear hK K; rintro e w9 ⟨v9, rfl, hra9, hb9, hk9⟩; refine ⟨_, rfl, ?_⟩; simp only [Zq]
  obtain ⟨lv9, kv9, vv9, uv9, rfl, hr9⟩ := hra9
  simp only at hr9
  have hg9 := hk9 _ _ HG36.out
  refine wl_putG (w.heap.size + 2) (rcells lv9 seed kv9 vv9 uv9 (isD ⟨kd, l, seed, addT (HH seed) t okey on⟩)) rfl rfl 105 _ hg9 info105 rfl (hr9.one _ _) ?_
  rw [put_noneA]
  have HFIN := Lib.hid (hr_new (cs := rcells lv9 seed kv9 vv9 uv9 (isD ⟨kd, l, seed, addT (HH seed) t okey on⟩)) hg9)
  have HRF := Lib.hid ((hr9.row105 hg9 (rcells lv9 seed kv9 vv9 uv9 (isD ⟨kd, l, seed, addT (HH seed) t okey on⟩))).weak (show w.heap.size ≤ W.heap.size by omega))
  have HBF := Lib.hid (below_setRow (HB6.out.trans (hb9.mono (show w.heap.size ≤ W.heap.size by omega))) (g := w.heap.size + 2) (by omega) (rcells lv9 seed kv9 vv9 uv9 (isD ⟨kd, l, seed, addT (HH seed) t okey on⟩)))
  clear hr9 hg9 hb9 hk9 hra6 hx7 o0 o1 o2 o3 o4 o5 HG36 HB6
  go_wp2_with fail
  exact bodyPost_ret (res_105t rfl _ _ (w.heap.size + 2) rfl rfl HFIN.out) rfl ⟨_, rfl, ⟨_, _, _, _, rfl, HRF.out⟩, HBF.out⟩
set_option maxHeartbeats 4000000 in
set_option maxRecDepth 100000 in
theorem changedI_set (v : Value) (b : Buf) (o : OpV) (B : Nat) (hk : o.kind = 9) (i : Nat) (hf : fnd b.seed b.t o.key = (i : Int)) (x : Int) (hi : i < b.t.length) (hx : pl b.t i = some (o.key, x)) (hwf : Wf (HH b.seed) b.t) (hn : b.t.length ≤ 100000) (hl : b.l.length ≤ 100000) (w : World) (h : RAt w B v b) :
    Calls Try.prog 68 #[v, .agg o.cells] w fun e w' => ∃ v', e = .returned (.tuple #[v', .bool (!decide (x = o.n))]) ∧ RAt w' w.heap.size v' { b with t := setT b.t i o.key o.n } ∧ Below w.heap.size w w' := by
  obtain ⟨lv0, kv0, vv0, uv0, rfl, hr0⟩ := h
  have HR0 := Lib.hid hr0
  obtain ⟨ok, ofr, oto, oat, on, okey⟩ := o
  simp only at hk
  subst hk
  obtain ⟨kd, l, seed, t⟩ := b
  simp only at HR0 hn hl ⊢
  obtain ⟨dd, hdd⟩ : ∃ dd, dd = isD ⟨kd, l, seed, t⟩ := ⟨_, rfl⟩
  have HDD : Hid (∀ l' t', dd = isD ⟨kd, l', seed, t'⟩) := Lib.hid (fun _ _ => hdd)
  rw [← hdd]
  obtain ⟨OC, hOC⟩ : ∃ OC, OC = OpV.cells ⟨9, ofr, oto, oat, on, okey⟩ := ⟨_, rfl⟩
  rw [← hOC]
  have HOC := Lib.hid hOC
  clear hr0 hdd hOC
  go_enter Try.func68, Try.ntmps68
  go_upto_region 1 with (fail)
  have hb0 := (Below.refl w.heap.size w).alloc (Nat.le_refl _) (.cells (rcells lv0 seed kv0 vv0 uv0 dd) 105)
  have hb1 := hb0.alloc (by simp) (.cells OC 39)
  have hb2 := hb1.alloc (by simp; omega) (.cells noR 105)
  refine wp_world (fun W => Below w.heap.size w W ∧ W.heap[w.heap.size]? = some (.cells (rcells lv0 seed kv0 vv0 uv0 dd) 105 (0, 0)) ∧ W.heap[w.heap.size + 1]? = some (.cells OC 39 (0, 0)) ∧ W.heap[w.heap.size + 2]? = some (.cells noR 105 (0, 0))) ⟨hb2, ha_old (ha_old (ha_new rfl)), ha_old (ha_new (by simp)), ha_new (by simp)⟩ ?_
  clear hb0 hb1 hb2
  rintro W ⟨hb, g1, g2, g3⟩
  have HB := Lib.hid hb
  have L3 := heap_lt g3
  have HQ0 : Hid (∀ q, lv0.ownBlock = some q ∨ vv0.ownBlock = some q → q < w.heap.size) := Lib.hid (fun q hq => hq.elim (fun e => own_lt HR0.out.l q e) (fun e => own_lt HR0.out.v q e))
  apply wp_region_lit
  ((with_reducible apply wl_rowG); exact rfl; exact rfl; exact rowR g1)
  try simp only [Zq]
  replace HR0 := Lib.hid (HR0.out.below hb)
  have hra0 : RAt W B (.agg (rcells lv0 seed kv0 vv0 uv0 dd)) ⟨kd, l, seed, t⟩ := ⟨_, _, _, _, by rw [show dd = isD ⟨kd, l, seed, t⟩ from HDD.out _ _], HR0.out⟩
  refine wl_ck rfl (fun K hK => ?_); go_simp; refine ⟨_, _, ⟨rfl, rfl⟩, hK _ _ ⟨_, copiedI_any _ ⟨kd, l, seed, t⟩ B hn hl _ hra0, ?_⟩⟩; clear hK K; rintro e w1 ⟨v1, rfl, ⟨lv, kv, vv, uv, rfl, hr1⟩, hb1⟩; refine ⟨_, rfl, ?_⟩; simp only [Zq]
  simp only at hr1
  rw [show isD ⟨kd, l, seed, t⟩ = dd from (HDD.out _ _).symm]
  replace g1 := below_look hb1 g1
  replace g2 := below_look hb1 g2
  replace g3 := below_look hb1 g3
  replace HR0 := Lib.hid (HR0.out.below hb1)
  have hbw := hb.trans (hb1.mono hb.size)
  have hs1 := hb1.size
  clear hb1 hra0 hb HB
  refine wl_new (fun ev w => ex_alloc105 rfl ev w) ?_
  intro W5 p7 hb5 hl5 h5
  refine wl_putG p7 (rcells lv seed kv vv uv dd) rfl rfl 105 _ h5 info105 rfl (hr1.one seed dd) ?_
  rw [put_noneA]
  have HR1 := Lib.hid ((hr1.below hb5).row105 h5 (rcells lv seed kv vv uv dd))
  replace HR0 := Lib.hid ((HR0.out.below hb5).row105 h5 (rcells lv seed kv vv uv dd))
  have h7 := hr_new (cs := rcells lv seed kv vv uv dd) h5
  have hz5 := hb5.size
  have hbz := below_setRow (hbw.trans (hb5.mono hbw.size)) (g := p7) (by omega) (rcells lv seed kv vv uv dd)
  replace g1 := hr_old (g := p7) (cs := rcells lv seed kv vv uv dd) (below_look hb5 g1) (by omega)
  replace g2 := hr_old (g := p7) (cs := rcells lv seed kv vv uv dd) (below_look hb5 g2) (by omega)
  replace g3 := hr_old (g := p7) (cs := rcells lv seed kv vv uv dd) (below_look hb5 g3) (by omega)
  have hWs : W.heap.size ≤ (W5.setRow p7 (rcells lv seed kv vv uv dd)).heap.size := by
    have h9 := (below_setRow (Below.refl 0 W5) (g := p7) (Nat.zero_le _) (rcells lv seed kv vv uv dd)).size
    omega
  have HBZ := Lib.hid hbz
  have HG1 := Lib.hid g1
  have HG3 := Lib.hid g3
  have HP7 := Lib.hid h7
  rw [HOC.out] at g2
  have HG2 := Lib.hid g2
  have hp7W : W.heap.size ≤ p7 := by omega
  clear hb5 h5 hl5 hbw hr1 hbz g1 g2 g3 h7 hz5
  generalize W5.setRow p7 (rcells lv seed kv vv uv dd) = w5 at *
  obtain ⟨o0, o1, o2, o3, o4, o5⟩ := op_cell HG2.out
  have L7 := heap_lt HP7.out
  simp only at hf hwf hi hx
  have hra5 : RAt w5 W.heap.size (.agg (rcells lv seed kv vv uv dd)) ⟨kd, l, seed, t⟩ := ⟨_, _, _, _, by rw [show dd = isD ⟨kd, l, seed, t⟩ from HDD.out _ _], HR1.out⟩
  have hx7 := HP7.out
  go_upto_region 17 with (fail)
  apply wp_region_lit
  ((with_reducible apply wl_rowG); exact rfl; exact rfl; exact rowR hx7); try simp only [Zq]
  refine wl_k rfl (fun K hK => ?_); go_simp; refine hK _ ?_; clear hK K
  ((with_reducible apply wl_oneG); exact rfl; exact rfl; exact one9 o5); try simp only [Zq]
  refine wl_ck rfl (fun K hK => ?_); go_simp; refine ⟨_, _, ⟨rfl, rfl⟩, hK _ _ ⟨_, findI_any _ ⟨kd, l, seed, t⟩ W.heap.size okey (Or.inr hwf) hn _ hra5, ?_⟩⟩; clear hK K; rintro e w6 ⟨rfl, hb6⟩; refine ⟨_, rfl, ?_⟩; simp only [Zq]
  rw [show fnd seed t okey = (i : Int) from hf]
  refine wl_k rfl (fun K hK => ?_); go_simp; refine hK _ ?_; clear hK K
  clear o0 o1 o2 o3 o4 o5 hx7
  have hr6 := HR1.out.below hb6
  have hr06 := HR0.out.below hb6
  have hg1 := below_look hb6 HG1.out
  have hg2 := below_look hb6 HG2.out
  have hg3 := below_look hb6 HG3.out
  have hx7 := below_look hb6 HP7.out
  have hbz6 := HBZ.out.trans (hb6.mono HBZ.out.size)
  have HG36 := Lib.hid hg3
  have HB6 := Lib.hid hbz6
  obtain ⟨p2, c2, p3, c3, p4, c4, rfl, rfl, rfl, hb2, hb3, hb4⟩ := hr6.tab (by omega)
  obtain ⟨q2, d2, q3, d3, q4, d4, rfl, rfl, rfl, -, -, -⟩ := hr06.tab (by omega)
  have hq3 := HQ0.out q3 (Or.inr rfl)
  have hitI : (i : Int) < ((t.length : Nat) : Int) := by omega
  have t3 := own_th hr6.v hi
  have f3 := hr6.v.frozenAt i
  have x0 : w6.cell? ⟨q3, i, none⟩ = some (.int .i64 x) := by
    rw [hr06.v.cellAt i (by omega)]; unfold ints; rw [List.getElem?_map, List.getElem?_map, pl_get hi, hx]; rfl
  have X0 : Hid ((w6.setCell ⟨p3, i, none⟩ (.int .i64 on)).cell? ⟨q3, i, none⟩ = some (.int .i64 x)) := Lib.hid (by
    rw [← x0]; unfold World.cell?; rw [show (w6.setCell ⟨p3, i, none⟩ (.int .i64 on)).heap[q3]? = w6.heap[q3]? from heap_setCell_other w6 ⟨p3, i, none⟩ q3 (.int .i64 on) (fun e => by have : q3 = p3 := e; omega)])
  have hr7 : RSl (w6.setCell ⟨p3, i, none⟩ (.int .i64 on)) W.heap.size lv (.slice (some ⟨p2, 0, none⟩) t.length c2) (.slice (some ⟨p3, 0, none⟩) t.length c3) (.slice (some ⟨p4, 0, none⟩) t.length c4) l (setT t i okey on) := by
    have h9 := own_setG hr6.v i (.int .i64 on)
    have hlen : (setT t i okey on).length = t.length := by unfold setT; simp
    refine ⟨own_other hr6.l hr6.v (by decide) i _, ?_, ?_, ?_, hr6.ne⟩
    · rw [setT_k hi hx, hlen]; exact own_other hr6.k hr6.v (by decide) i _
    · rw [setT_v, hlen]; exact h9
    · rw [setT_u hi hx, hlen]; exact own_other hr6.u hr6.v (by decide) i _
  have HR7 := Lib.hid hr7
  have hne105 : ∀ (g : Nat) (cs : Array Value) (t : TypeId), t ≠ 3 → w6.heap[g]? = some (.cells cs t (0, 0)) → (w6.setCell ⟨p3, i, none⟩ (.int .i64 on)).heap[g]? = some (.cells cs t (0, 0)) := fun g cs t ht hg => hs_old hg (fun e => by
    obtain ⟨_, cd, hcd⟩ := own_block hr6.v (q := p3) rfl
    rw [show g = p3 from e, hcd] at hg
    simp only [Option.some.injEq, Obj.cells.injEq] at hg
    exact ht hg.2.1.symm)
  have HP77 := Lib.hid (hne105 _ _ _ (by decide) hx7)
  have HG17 := Lib.hid (hne105 _ _ _ (by decide) hg1)
  have HG27 := Lib.hid (hne105 _ _ _ (by decide) hg2)
  have HG37 := Lib.hid (hne105 _ _ _ (by decide) hg3)
  have HB7 : Hid (Below w.heap.size w (w6.setCell ⟨p3, i, none⟩ (.int .i64 on))) := Lib.hid (hbz6.setCell (p := ⟨p3, i, none⟩) (show w.heap.size ≤ p3 by omega) _)
  obtain ⟨o0, o1, o2, o3, o4, o5⟩ := op_cell hg2
  obtain ⟨-, -, -, y3, -, -⟩ := rc_cell hx7
  clear x0 hr7 hne105 HBZ HR0 HR1 hx hra5 hr6 hr06 hg1 hg2 hg3 hx7 hbz6 hb6 HG1 HG2 HG3 HP7 HG36 HB6
  go_upto_region 19 with (fail)
  apply wp_region_lit
  refine wl_k rfl (fun K hK => ?_); go_simp; refine hK _ ?_; clear hK K
  ((with_reducible apply wl_oneG); exact rfl; exact rfl; exact one63 y3); try simp only [Zq]
  iterate 2 (refine wl_k rfl (fun K hK => ?_); go_simp; refine hK _ ?_; clear hK K)
  ((with_reducible apply wl_oneG); exact rfl; exact rfl; exact one3 o4); try simp only [Zq]
  refine wl_k rfl (fun K hK => ?_); go_simp; refine hK _ ?_; clear hK K
  refine wl_storeC rfl 3 _ _ rfl p3 i (.int .i64 on) rfl rfl (by kernel_rfl) rfl t3 f3 ?_
  rw [put_noneA]
  clear y3 o0 o1 o2 o3 o4 o5 t3 f3
  generalize w6.setCell ⟨p3, i, none⟩ (.int .i64 on) = w7 at *
  obtain ⟨-, -, -, z3, -, -⟩ := rc_cell HG17.out
  obtain ⟨o0, o1, o2, o3, o4, o5⟩ := op_cell HG27.out
  have x0 := X0.out
  have hx7 := HP77.out
  go_upto_region 20 with (fail)
  have hg0 : w.heap.size ∉ [w.heap.size + 2] := by simp
  have hg1 : w.heap.size + 1 ∉ [w.heap.size + 2] := by simp
  have hg7 : p7 ∉ [w.heap.size + 2] := by simp; omega
  have hg00 : q3 ∉ [w.heap.size + 2] := by simp; omega
  refine wp_region_held_drew (S := Kept [w.heap.size + 2] w7) mixed (Kept.drew [w.heap.size + 2] w7) (fun hS => ?_)
  refine hv3 (i := 0) rfl (by kernel_rfl) Zg hS rfl (fun w' hw' => ex_row rfl (rowR (hw'.look hx7 (by simp <;> omega)))) ?_; try simp only [Zq]
  refine hk3 (i := 1) rfl (by kernel_rfl) Zh hS rfl (fun K hK => ?_); go_simp; refine hK _ ?_; clear hK K; try simp only [Zq]
  (refine hv3 (i := 2) rfl (by kernel_rfl) Zg hS rfl (fun w' hw' => ex_one rfl (one63 (hw'.cell z3 hg0))) ?_; try simp only [Zq])
  refine hk3 (i := 3) rfl (by kernel_rfl) Zh hS rfl (fun K hK => ?_); go_simp; refine hK _ ?_; clear hK K; try simp only [Zq]
  refine hk3 (i := 4) rfl (by kernel_rfl) Zh hS rfl (fun K hK => ?_); go_simp; refine hK _ ?_; clear hK K; try simp only [Zq]
  (refine hv3 (i := 5) rfl (by kernel_rfl) Zg hS rfl (fun w' hw' => ex_one rfl (one3 (hw'.cell x0 hg00))) ?_; try simp only [Zq])
  refine hk3 (i := 6) rfl (by kernel_rfl) Zh hS rfl (fun K hK => ?_); go_simp; refine hK _ ?_; clear hK K; try simp only [Zq]
  (refine hv3 (i := 7) rfl (by kernel_rfl) Zg hS rfl (fun w' hw' => ex_one rfl (one3 (hw'.cell o4 hg1))) ?_; try simp only [Zq])
  refine hk3 (i := 8) rfl (by kernel_rfl) Zh hS rfl (fun K hK => ?_); go_simp; refine hK _ ?_; clear hK K; try simp only [Zq]
  have hg3 := HG37.out
  refine ha_store (i := 9) (by kernel_rfl) rfl rfl 105 _ _ rfl (w.heap.size + 2) (rcells lv seed (.slice (some ⟨p2, 0, none⟩) t.length c2) (.slice (some ⟨p3, 0, none⟩) t.length c3) (.slice (some ⟨p4, 0, none⟩) t.length c4) dd) rfl rfl 105 _ hg3 info105 rfl (HR7.out.one seed dd) (hS.setRow (by simp) _) (fun hS => ?_); try simp only [Zq]
  refine hk3 (i := 10) rfl (by kernel_rfl) Zh hS rfl (fun K hK => ?_); go_simp; refine hK _ ?_; clear hK K; try simp only [Zq]
  refine wpAnyH_done (by kernel_rfl) ?_ _
  have HFIN := Lib.hid (hr_new (cs := rcells lv seed (.slice (some ⟨p2, 0, none⟩) t.length c2) (.slice (some ⟨p3, 0, none⟩) t.length c3) (.slice (some ⟨p4, 0, none⟩) t.length c4) dd) hg3)
  have HRF : Hid (RAt (w7.drew.setRow (w.heap.size + 2) (rcells lv seed (.slice (some ⟨p2, 0, none⟩) t.length c2) (.slice (some ⟨p3, 0, none⟩) t.length c3) (.slice (some ⟨p4, 0, none⟩) t.length c4) dd)) w.heap.size (.agg (rcells lv seed (.slice (some ⟨p2, 0, none⟩) t.length c2) (.slice (some ⟨p3, 0, none⟩) t.length c3) (.slice (some ⟨p4, 0, none⟩) t.length c4) dd)) ⟨kd, l, seed, setT t i okey on⟩) := Lib.hid ⟨_, _, _, _, by rw [show dd = isD ⟨kd, l, seed, setT t i okey on⟩ from HDD.out _ _], ((HR7.out.below (Below.refl _ w7).drew).row105 hg3 _).weak (show w.heap.size ≤ W.heap.size by omega)⟩
  have HBF := Lib.hid (below_setRow (HB7.out.trans ((Below.refl _ w7).drew.mono HB7.out.size)) (g := w.heap.size + 2) (by omega) (rcells lv seed (.slice (some ⟨p2, 0, none⟩) t.length c2) (.slice (some ⟨p3, 0, none⟩) t.length c3) (.slice (some ⟨p4, 0, none⟩) t.length c4) dd))
  have HE : Hid (decide (x = on) = (x == on)) := Lib.hid (by rw [← Bool.coe_iff_coe]; simp)
  clear hS hg3 x0 z3 o0 o1 o2 o3 o4 o5 hx7
  go_wp2_with fail
  exact bodyPost_ret (res_105t rfl _ _ (w.heap.size + 2) rfl rfl HFIN.out) rfl ⟨.agg (rcells lv seed (.slice (some ⟨p2, 0, none⟩) t.length c2) (.slice (some ⟨p3, 0, none⟩) t.length c3) (.slice (some ⟨p4, 0, none⟩) t.length c4) dd), by rw [HE.out]; rfl, HRF.out, HBF.out⟩
set_option maxHeartbeats 4000000 in
set_option maxRecDepth 100000 in
theorem changedI_sort (v : Value) (b : Buf) (o : OpV) (B : Nat) (hk : o.kind = 7) (hn : b.t.length ≤ 100000) (hl : b.l.length ≤ 100000) (w : World) (h : RAt w B v b) :
    Calls Try.prog 68 #[v, .agg o.cells] w fun e w' => ∃ v', e = .returned (.tuple #[v', .bool (!decide (sortL b.l = b.l))]) ∧ RAt w' w.heap.size v' { b with l := sortL b.l } ∧ Below w.heap.size w w' := by
  obtain ⟨SL, hSL⟩ : ∃ SL, SL = sortL b.l := ⟨_, rfl⟩
  obtain ⟨GB, hGB⟩ : ∃ GB, GB = decide (SL = b.l) := ⟨_, rfl⟩
  rw [← hSL, ← hGB]
  obtain ⟨lv0, kv0, vv0, uv0, rfl, hr0⟩ := h
  have HR0 := Lib.hid hr0
  obtain ⟨ok, ofr, oto, oat, on, okey⟩ := o
  simp only at hk
  subst hk
  obtain ⟨kd, l, seed, t⟩ := b
  simp only at HR0 hn hl ⊢
  obtain ⟨dd, hdd⟩ : ∃ dd, dd = isD ⟨kd, l, seed, t⟩ := ⟨_, rfl⟩
  have HDD : Hid (∀ l' t', dd = isD ⟨kd, l', seed, t'⟩) := Lib.hid (fun _ _ => hdd)
  rw [← hdd]
  obtain ⟨OC, hOC⟩ : ∃ OC, OC = OpV.cells ⟨7, ofr, oto, oat, on, okey⟩ := ⟨_, rfl⟩
  rw [← hOC]
  have HOC := Lib.hid hOC
  clear hr0 hdd hOC
  go_enter Try.func68, Try.ntmps68
  go_upto_region 1 with (fail)
  have hb0 := (Below.refl w.heap.size w).alloc (Nat.le_refl _) (.cells (rcells lv0 seed kv0 vv0 uv0 dd) 105)
  have hb1 := hb0.alloc (by simp) (.cells OC 39)
  have hb2 := hb1.alloc (by simp; omega) (.cells noR 105)
  refine wp_world (fun W => Below w.heap.size w W ∧ W.heap[w.heap.size]? = some (.cells (rcells lv0 seed kv0 vv0 uv0 dd) 105 (0, 0)) ∧ W.heap[w.heap.size + 1]? = some (.cells OC 39 (0, 0)) ∧ W.heap[w.heap.size + 2]? = some (.cells noR 105 (0, 0))) ⟨hb2, ha_old (ha_old (ha_new rfl)), ha_old (ha_new (by simp)), ha_new (by simp)⟩ ?_
  clear hb0 hb1 hb2
  rintro W ⟨hb, g1, g2, g3⟩
  have HB := Lib.hid hb
  have L3 := heap_lt g3
  have HQ0 : Hid (∀ q, lv0.ownBlock = some q ∨ vv0.ownBlock = some q → q < w.heap.size) := Lib.hid (fun q hq => hq.elim (fun e => own_lt HR0.out.l q e) (fun e => own_lt HR0.out.v q e))
  apply wp_region_lit
  ((with_reducible apply wl_rowG); exact rfl; exact rfl; exact rowR g1)
  try simp only [Zq]
  replace HR0 := Lib.hid (HR0.out.below hb)
  have hra0 : RAt W B (.agg (rcells lv0 seed kv0 vv0 uv0 dd)) ⟨kd, l, seed, t⟩ := ⟨_, _, _, _, by rw [show dd = isD ⟨kd, l, seed, t⟩ from HDD.out _ _], HR0.out⟩
  refine wl_ck rfl (fun K hK => ?_); go_simp; refine ⟨_, _, ⟨rfl, rfl⟩, hK _ _ ⟨_, copiedI_any _ ⟨kd, l, seed, t⟩ B hn hl _ hra0, ?_⟩⟩; clear hK K; rintro e w1 ⟨v1, rfl, ⟨lv, kv, vv, uv, rfl, hr1⟩, hb1⟩; refine ⟨_, rfl, ?_⟩; simp only [Zq]
  simp only at hr1
  rw [show isD ⟨kd, l, seed, t⟩ = dd from (HDD.out _ _).symm]
  replace g1 := below_look hb1 g1
  replace g2 := below_look hb1 g2
  replace g3 := below_look hb1 g3
  replace HR0 := Lib.hid (HR0.out.below hb1)
  have hbw := hb.trans (hb1.mono hb.size)
  have hs1 := hb1.size
  clear hb1 hra0 hb HB
  refine wl_new (fun ev w => ex_alloc105 rfl ev w) ?_
  intro W5 p7 hb5 hl5 h5
  refine wl_putG p7 (rcells lv seed kv vv uv dd) rfl rfl 105 _ h5 info105 rfl (hr1.one seed dd) ?_
  rw [put_noneA]
  have HR1 := Lib.hid ((hr1.below hb5).row105 h5 (rcells lv seed kv vv uv dd))
  replace HR0 := Lib.hid ((HR0.out.below hb5).row105 h5 (rcells lv seed kv vv uv dd))
  have h7 := hr_new (cs := rcells lv seed kv vv uv dd) h5
  have hz5 := hb5.size
  have hbz := below_setRow (hbw.trans (hb5.mono hbw.size)) (g := p7) (by omega) (rcells lv seed kv vv uv dd)
  replace g1 := hr_old (g := p7) (cs := rcells lv seed kv vv uv dd) (below_look hb5 g1) (by omega)
  replace g2 := hr_old (g := p7) (cs := rcells lv seed kv vv uv dd) (below_look hb5 g2) (by omega)
  replace g3 := hr_old (g := p7) (cs := rcells lv seed kv vv uv dd) (below_look hb5 g3) (by omega)
  have hWs : W.heap.size ≤ (W5.setRow p7 (rcells lv seed kv vv uv dd)).heap.size := by
    have h9 := (below_setRow (Below.refl 0 W5) (g := p7) (Nat.zero_le _) (rcells lv seed kv vv uv dd)).size
    omega
  have HBZ := Lib.hid hbz
  have HG1 := Lib.hid g1
  have HG3 := Lib.hid g3
  have HP7 := Lib.hid h7
  rw [HOC.out] at g2
  have HG2 := Lib.hid g2
  have hp7W : W.heap.size ≤ p7 := by omega
  clear hb5 h5 hl5 hbw hr1 hbz g1 g2 g3 h7 hz5
  generalize W5.setRow p7 (rcells lv seed kv vv uv dd) = w5 at *
  obtain ⟨o0, o1, o2, o3, o4, o5⟩ := op_cell HG2.out
  have L7 := heap_lt HP7.out
  simp only at hSL hGB
  obtain ⟨A0, c0, rfl, hst⟩ := own_str HR0.out.l rfl
  obtain ⟨z0, -, -, -, -, -⟩ := rc_cell HG1.out
  go_upto_region 13 with (fail)
  apply wp_region_lit
  refine wl_k rfl (fun K hK => ?_); go_simp; refine hK _ ?_; clear hK K
  ((with_reducible apply wl_oneG); exact rfl; exact rfl; exact one29 z0); try simp only [Zq]
  have hsl : SL.length = l.length := by rw [hSL]; exact sortL_length l
  have HSLN := Lib.hid hsl
  have HSO : ∀ W', StrAt W' A0 l.length c0 l → Calls Try.prog 28 #[.slice A0 l.length c0] W' fun e w' => ∃ v', e = .returned v' ∧ w'.ownsRow W'.heap.size 9 1 v' l.length (strs SL) ∧ Below W'.heap.size W' w' := fun W' h9 => by rw [hSL]; exact SortedI_any A0 l.length c0 l hl W' h9
  have HGB := Lib.hid hGB
  clear hSL hGB
  refine wl_ck rfl (fun K hK => ?_); go_simp; refine ⟨_, _, ⟨rfl, rfl⟩, hK _ _ ⟨_, HSO _ hst, ?_⟩⟩; clear hK K; rintro e w6 ⟨v6, rfl, hs6, hb6⟩; refine ⟨_, rfl, ?_⟩; simp only [Zq]
  clear HSO hsl
  refine wl_k rfl (fun K hK => ?_); go_simp; refine hK _ ?_; clear hK K
  have hr6 := HR1.out.below hb6
  have hr06 := HR0.out.below hb6
  have hg1 := below_look hb6 HG1.out
  have hg3 := below_look hb6 HG3.out
  have hx7 := below_look hb6 HP7.out
  have hbz6 := HBZ.out.trans (hb6.mono HBZ.out.size)
  have hr6' : RSl w6 W.heap.size v6 kv vv uv (SL) t := ⟨by rw [HSLN.out]; exact own_weak hs6 hWs, hr6.k, hr6.v, hr6.u, fun q hq hx => by
    have h1 := (own_block hs6 hq).1
    have h2 := own_lt HR1.out.k q hx
    omega⟩
  clear z0 o0 o1 o2 o3 o4 o5 hb6 HG2
  refine wl_storeC rfl 29 _ _ rfl p7 0 v6 rfl rfl (by kernel_rfl) (own_one hs6) (by rw [(rc_cell hx7).1]; rfl) (frozen_of_row _ _ _ _ _ hx7) ?_
  rw [put_noneA]
  have HR7 := Lib.hid (hr6'.cell105 hx7 0 v6)
  have HR07 := Lib.hid (hr06.cell105 hx7 0 v6)
  have HP77 : Hid ((w6.setCell ⟨p7, 0, none⟩ v6).heap[p7]? = some (.cells (rcells v6 seed kv vv uv dd) 105 (0, 0))) := Lib.hid ((hs_new hx7).trans rfl)
  have HG17 : Hid ((w6.setCell ⟨p7, 0, none⟩ v6).heap[w.heap.size]? = _) := Lib.hid (hs_old hg1 (show w.heap.size ≠ p7 by omega))
  have HG37 : Hid ((w6.setCell ⟨p7, 0, none⟩ v6).heap[w.heap.size + 2]? = _) := Lib.hid (hs_old hg3 (show w.heap.size + 2 ≠ p7 by omega))
  have HB7 : Hid (Below w.heap.size w (w6.setCell ⟨p7, 0, none⟩ v6)) := Lib.hid (hbz6.setCell (p := ⟨p7, 0, none⟩) (show w.heap.size ≤ p7 by omega) v6)
  clear hr6 hr6' hr06 hs6 hst hx7 hg1 hg3 hbz6 HR0 HR1 HG1 HG3 HP7 HBZ
  generalize w6.setCell ⟨p7, 0, none⟩ v6 = w7 at *
  obtain ⟨A7, c7, rfl, hs7⟩ := own_str HR7.out.l rfl
  obtain ⟨A0', c0', e0, hs0⟩ := own_str HR07.out.l rfl
  cases e0
  obtain ⟨z0, -, -, -, -, -⟩ := rc_cell HG17.out
  obtain ⟨y0, -, -, -, -, -⟩ := rc_cell HP77.out
  have hx7 := HP77.out
  have hg3 := HG37.out
  go_upto_region 14 with (fail)
  have hg0 : w.heap.size ∉ [w.heap.size + 2] := by simp
  have hg7 : p7 ∉ [w.heap.size + 2] := by simp; omega
  refine wp_region_held_drew (S := Kept [w.heap.size + 2] w7) mixed (Kept.drew [w.heap.size + 2] w7) (fun hS => ?_)
  refine hv3 (i := 0) rfl (by kernel_rfl) Zg hS rfl (fun w' hw' => ex_row rfl (rowR (hw'.look hx7 (by simp <;> omega)))) ?_; try simp only [Zq]
  refine hk3 (i := 1) rfl (by kernel_rfl) Zh hS rfl (fun K hK => ?_); go_simp; refine hK _ ?_; clear hK K; try simp only [Zq]
  (refine hv3 (i := 2) rfl (by kernel_rfl) Zg hS rfl (fun w' hw' => ex_one rfl (one29 (hw'.cell y0 hg7))) ?_; try simp only [Zq])
  refine hk3 (i := 3) rfl (by kernel_rfl) Zh hS rfl (fun K hK => ?_); go_simp; refine hK _ ?_; clear hK K; try simp only [Zq]
  (refine hv3 (i := 4) rfl (by kernel_rfl) Zg hS rfl (fun w' hw' => ex_one rfl (one29 (hw'.cell z0 hg0))) ?_; try simp only [Zq])
  have hrd := HR7.out.below (Below.refl _ w7).drew
  have hbd := HB7.out.trans ((Below.refl _ w7).drew.mono HB7.out.size)
  replace hg3 : w7.drew.heap[w.heap.size + 2]? = _ := hg3
  have HEQ : Calls Try.prog 27 #[.slice A7 SL.length c7, .slice A0 l.length c0] w7.drew fun e w' => e = .returned (.bool GB) ∧ Below w7.drew.heap.size w7.drew w' := by
    rw [HGB.out]
    exact EqStrings_any A7 A0 SL.length l.length c7 c0 SL l (by rw [HSLN.out]; omega) w7.drew (StrAt.below hs7 (Below.refl _ w7).drew) (StrAt.below hs0 (Below.refl _ w7).drew)
  refine ha_call (i := 5) (by kernel_rfl) rfl rfl (fun K hK => ?_); go_simp; refine ⟨_, _, ⟨rfl, rfl⟩, hK _ _ ⟨_, HEQ, ?_⟩⟩; clear hK K; rintro e w8 ⟨rfl, hb1⟩; refine ⟨_, rfl, hS.below hb1, ?_⟩; replace hS := hS.below hb1; (replace hrd := hrd.below hb1; replace hbd := hbd.trans (hb1.mono hbd.size); replace hg3 := below_look hb1 hg3; clear hb1); try simp only [Zq]
  refine hk3 (i := 6) rfl (by kernel_rfl) Zh hS rfl (fun K hK => ?_); go_simp; refine hK _ ?_; clear hK K; try simp only [Zq]
  refine ha_store (i := 7) (by kernel_rfl) rfl rfl 105 _ _ rfl (w.heap.size + 2) (rcells (.slice A7 SL.length c7) seed kv vv uv dd) rfl rfl 105 _ hg3 info105 rfl (HR7.out.one seed dd) (hS.setRow (by simp) _) (fun hS => ?_); try simp only [Zq]
  refine hk3 (i := 8) rfl (by kernel_rfl) Zh hS rfl (fun K hK => ?_); go_simp; refine hK _ ?_; clear hK K; try simp only [Zq]
  refine wpAnyH_done (by kernel_rfl) ?_ _
  have HFIN := Lib.hid (hr_new (cs := rcells (.slice A7 SL.length c7) seed kv vv uv dd) hg3)
  have HRF : Hid (RAt (w8.setRow (w.heap.size + 2) (rcells (.slice A7 SL.length c7) seed kv vv uv dd)) w.heap.size (.agg (rcells (.slice A7 SL.length c7) seed kv vv uv dd)) ⟨kd, SL, seed, t⟩) := Lib.hid ⟨_, _, _, _, by rw [show dd = isD ⟨kd, SL, seed, t⟩ from HDD.out _ _], (hrd.row105 hg3 _).weak (show w.heap.size ≤ W.heap.size by omega)⟩
  have HBF := Lib.hid (below_setRow hbd (g := w.heap.size + 2) (by omega) (rcells (.slice A7 SL.length c7) seed kv vv uv dd))
  clear hS hg3 hrd hbd z0 y0 hx7 hs7 hs0
  go_wp2_with fail
  exact bodyPost_ret (res_105t rfl _ _ (w.heap.size + 2) rfl rfl HFIN.out) rfl ⟨_, rfl, HRF.out, HBF.out⟩
theorem own_take {w : World} {B p cap n : Nat} {xs : List Value} (h : w.ownsRow B 9 1 (.slice (some ⟨p, 0, none⟩) n cap) n xs) {i : Nat} (hi : i ≤ n) : w.ownsRow B 9 1 (.slice (some ⟨p, 0, none⟩) i cap) i (xs.take i) := by
  refine ⟨by have := h.1; rw [List.length_take]; omega, Or.inr ?_⟩
  rcases h.2 with ⟨h0, _⟩ | ⟨g, c, cur, hv, hB, hg, h1, h2, h3, h4⟩
  · cases h0
  · cases hv
    exact ⟨p, cap, cur, rfl, hB, hg, by omega, h2, h3, by rw [← h4, List.take_take]; congr 1; omega⟩
theorem sliced_zero (p i c : Nat) : sliced (some ⟨p, 0, none⟩) 0 i c 1 = .slice (some ⟨p, 0, none⟩) i c := by
  unfold sliced
  split <;> simp [Addr.add_mid]
theorem run_cut {w : World} {B p n c i m c' : Nat} {l : List ByteArray} {A' : Option Addr} (hl : l.length = n) (ho : w.ownsRow B 9 1 (.slice (some ⟨p, 0, none⟩) n c) n (strs l)) (hs : StrAt w A' m c' (l.drop (i + 1))) (hi : i < n) (hn : n ≤ 1000000) (hB : B ≤ w.heap.size) :
    ∃ v' w', (Builtin.append_ #[29, 29] 29 #[.slice (some ⟨p, 0, none⟩) i c, .slice A' m c']).run Try.prog w = .ok v' w' ∧ w'.ownsRow B 9 1 v' (l.eraseIdx i).length (strs (l.eraseIdx i)) ∧ w.grownBy w' (some p) ∧ (v'.ownBlock = some p ∨ v'.ownBlock = some w.heap.size) := by
  have h1 := own_take ho (i := i) (by omega)
  rw [show (strs l).take i = strs (l.take i) by unfold strs; rw [List.map_take]] at h1
  have hm : m = l.length - (i + 1) := by have := hs.1; rw [List.length_drop] at this; omega
  obtain ⟨v', w', hr, h2, h3, h4⟩ := run_app29 29 h1 hs hB (by omega) (by omega)
  refine ⟨v', w', hr, ?_, h3, h4⟩
  rw [List.length_eraseIdx, if_pos (by omega), List.eraseIdx_eq_take_drop_succ, show l.length - 1 = i + m by omega]
  exact h2
set_option maxHeartbeats 4000000 in
set_option maxRecDepth 100000 in
theorem changedI_cut (v : Value) (b : Buf) (o : OpV) (B : Nat) (hk : o.kind = 5) (i : Nat) (ha : o.at_ = (i : Int)) (hil : i < b.l.length) (hn : b.t.length ≤ 100000) (hl : b.l.length ≤ 100000) (w : World) (h : RAt w B v b) :
    Calls Try.prog 68 #[v, .agg o.cells] w fun e w' => ∃ v', e = .returned (.tuple #[v', .bool true]) ∧ RAt w' w.heap.size v' { b with l := b.l.eraseIdx i } ∧ Below w.heap.size w w' := by
  obtain ⟨lv0, kv0, vv0, uv0, rfl, hr0⟩ := h
  have HR0 := Lib.hid hr0
  obtain ⟨ok, ofr, oto, oat, on, okey⟩ := o
  simp only at hk
  subst hk
  obtain ⟨kd, l, seed, t⟩ := b
  simp only at HR0 hn hl ⊢
  obtain ⟨dd, hdd⟩ : ∃ dd, dd = isD ⟨kd, l, seed, t⟩ := ⟨_, rfl⟩
  have HDD : Hid (∀ l' t', dd = isD ⟨kd, l', seed, t'⟩) := Lib.hid (fun _ _ => hdd)
  rw [← hdd]
  obtain ⟨OC, hOC⟩ : ∃ OC, OC = OpV.cells ⟨5, ofr, oto, oat, on, okey⟩ := ⟨_, rfl⟩
  rw [← hOC]
  have HOC := Lib.hid hOC
  clear hr0 hdd hOC
  go_enter Try.func68, Try.ntmps68
  go_upto_region 1 with (fail)
  have hb0 := (Below.refl w.heap.size w).alloc (Nat.le_refl _) (.cells (rcells lv0 seed kv0 vv0 uv0 dd) 105)
  have hb1 := hb0.alloc (by simp) (.cells OC 39)
  have hb2 := hb1.alloc (by simp; omega) (.cells noR 105)
  refine wp_world (fun W => Below w.heap.size w W ∧ W.heap[w.heap.size]? = some (.cells (rcells lv0 seed kv0 vv0 uv0 dd) 105 (0, 0)) ∧ W.heap[w.heap.size + 1]? = some (.cells OC 39 (0, 0)) ∧ W.heap[w.heap.size + 2]? = some (.cells noR 105 (0, 0))) ⟨hb2, ha_old (ha_old (ha_new rfl)), ha_old (ha_new (by simp)), ha_new (by simp)⟩ ?_
  clear hb0 hb1 hb2
  rintro W ⟨hb, g1, g2, g3⟩
  have HB := Lib.hid hb
  have L3 := heap_lt g3
  have HQ0 : Hid (∀ q, lv0.ownBlock = some q ∨ vv0.ownBlock = some q → q < w.heap.size) := Lib.hid (fun q hq => hq.elim (fun e => own_lt HR0.out.l q e) (fun e => own_lt HR0.out.v q e))
  apply wp_region_lit
  ((with_reducible apply wl_rowG); exact rfl; exact rfl; exact rowR g1)
  try simp only [Zq]
  replace HR0 := Lib.hid (HR0.out.below hb)
  have hra0 : RAt W B (.agg (rcells lv0 seed kv0 vv0 uv0 dd)) ⟨kd, l, seed, t⟩ := ⟨_, _, _, _, by rw [show dd = isD ⟨kd, l, seed, t⟩ from HDD.out _ _], HR0.out⟩
  refine wl_ck rfl (fun K hK => ?_); go_simp; refine ⟨_, _, ⟨rfl, rfl⟩, hK _ _ ⟨_, copiedI_any _ ⟨kd, l, seed, t⟩ B hn hl _ hra0, ?_⟩⟩; clear hK K; rintro e w1 ⟨v1, rfl, ⟨lv, kv, vv, uv, rfl, hr1⟩, hb1⟩; refine ⟨_, rfl, ?_⟩; simp only [Zq]
  simp only at hr1
  rw [show isD ⟨kd, l, seed, t⟩ = dd from (HDD.out _ _).symm]
  replace g1 := below_look hb1 g1
  replace g2 := below_look hb1 g2
  replace g3 := below_look hb1 g3
  replace HR0 := Lib.hid (HR0.out.below hb1)
  have hbw := hb.trans (hb1.mono hb.size)
  have hs1 := hb1.size
  clear hb1 hra0 hb HB
  refine wl_new (fun ev w => ex_alloc105 rfl ev w) ?_
  intro W5 p7 hb5 hl5 h5
  refine wl_putG p7 (rcells lv seed kv vv uv dd) rfl rfl 105 _ h5 info105 rfl (hr1.one seed dd) ?_
  rw [put_noneA]
  have HR1 := Lib.hid ((hr1.below hb5).row105 h5 (rcells lv seed kv vv uv dd))
  replace HR0 := Lib.hid ((HR0.out.below hb5).row105 h5 (rcells lv seed kv vv uv dd))
  have h7 := hr_new (cs := rcells lv seed kv vv uv dd) h5
  have hz5 := hb5.size
  have hbz := below_setRow (hbw.trans (hb5.mono hbw.size)) (g := p7) (by omega) (rcells lv seed kv vv uv dd)
  replace g1 := hr_old (g := p7) (cs := rcells lv seed kv vv uv dd) (below_look hb5 g1) (by omega)
  replace g2 := hr_old (g := p7) (cs := rcells lv seed kv vv uv dd) (below_look hb5 g2) (by omega)
  replace g3 := hr_old (g := p7) (cs := rcells lv seed kv vv uv dd) (below_look hb5 g3) (by omega)
  have hWs : W.heap.size ≤ (W5.setRow p7 (rcells lv seed kv vv uv dd)).heap.size := by
    have h9 := (below_setRow (Below.refl 0 W5) (g := p7) (Nat.zero_le _) (rcells lv seed kv vv uv dd)).size
    omega
  have HBZ := Lib.hid hbz
  have HG1 := Lib.hid g1
  have HG3 := Lib.hid g3
  have HP7 := Lib.hid h7
  rw [HOC.out] at g2
  have HG2 := Lib.hid g2
  have hp7W : W.heap.size ≤ p7 := by omega
  clear hb5 h5 hl5 hbw hr1 hbz g1 g2 g3 h7 hz5
  generalize W5.setRow p7 (rcells lv seed kv vv uv dd) = w5 at *
  obtain ⟨o0, o1, o2, o3, o4, o5⟩ := op_cell HG2.out
  have L7 := heap_lt HP7.out
  simp only at ha hil
  subst ha
  obtain ⟨p1, c1, rfl, hp1⟩ := own_p HR1.out.l (by omega)
  obtain ⟨p1', c1', e9, hcap⟩ := own_s HR1.out.l (by omega)
  cases e9
  obtain ⟨y0, -, -, -, -, -⟩ := rc_cell HP7.out
  have hrd := HR1.out.below (Below.refl _ w5).drew
  have hbd := HBZ.out.trans ((Below.refl _ w5).drew.mono HBZ.out.size)
  have hWd : W.heap.size ≤ w5.drew.heap.size := hWs
  have hst : StrAt w5.drew (some ⟨p1, 0, none⟩) l.length c1 l := by
    obtain ⟨A, c, e, h9⟩ := own_str hrd.l rfl
    cases e
    exact h9
  obtain ⟨A9, hsl9, hsd⟩ := StrAt.cut hst (lo := i + 1) (hi := l.length) (by omega) (by omega) hcap
  rw [List.take_length] at hsd
  have hw1 : IntKind.i64.wrap ((i : Int) + 1) = ((i + 1 : Nat) : Int) := by rw [wrap_small _ (by omega) (by omega)]; simp
  have hg1 : w.heap.size + 1 ∉ [p1, p7] := by simp; omega
  go_upto_region 10 with (fail)
  refine wp_region_held_drew (S := Kept [p1, p7] w5) mixed (Kept.drew [p1, p7] w5) (fun hS => ?_)
  refine hk3 (i := 0) rfl (by kernel_rfl) Zh hS rfl (fun K hK => ?_); go_simp; refine hK _ ?_; clear hK K; try simp only [Zq]
  refine hk3 (i := 2) rfl (by kernel_rfl) Zh hS rfl (fun K hK => ?_); go_simp; refine hK _ ?_; clear hK K; try simp only [Zq]
  (refine hv3 (i := 3) rfl (by kernel_rfl) Zg hS rfl (fun w' hw' => ex_one rfl (one3 (hw'.cell o3 hg1))) ?_; try simp only [Zq])
  refine hk3 (i := 5) rfl (by kernel_rfl) Zh hS rfl (fun K hK => ?_); go_simp; refine hK _ ?_; clear hK K; try simp only [Zq]
  refine hk3 (i := 7) rfl (by kernel_rfl) Zh hS rfl (fun K hK => ?_); go_simp; refine hK _ ?_; clear hK K; try simp only [Zq]
  (refine hv3 (i := 8) rfl (by kernel_rfl) Zg hS rfl (fun w' hw' => ex_one rfl (one3 (hw'.cell o3 hg1))) ?_; try simp only [Zq])
  refine hk3 (i := 9) rfl (by kernel_rfl) Zh hS rfl (fun K hK => ?_); go_simp; refine hK _ ?_; clear hK K; try simp only [Zq]
  try rw [hw1]
  rw [show (i : Int) + 1 = ((i + 1 : Nat) : Int) by simp]
  refine ha_two (i := 1) (j := 6) (by kernel_rfl) ?_ ?_
  · refine sh_val (i := 1) rfl rfl (ex_one rfl (one29 (show w5.drew.cell? _ = _ from y0))) hS ?_; try simp only [Zq]
    (refine ha_val (i := 4) (v := .slice (some ⟨p1, 0, none⟩) i c1) rfl (by kernel_rfl) (by kernel_rfl) (by kernel_rfl) (fun _ _ _ h => h) hS rfl (fun w' _ => (ex_slH (hi := i) _ _ rfl rfl rfl (by omega)).trans (by rw [sliced_zero])) ?_; try simp only [Zq])
    refine ha_do (i := 6) (by kernel_rfl) rfl rfl (ex_one rfl (one29 (show w5.drew.cell? _ = _ from y0))) hS ?_; try simp only [Zq]
    (refine ha_val (i := 10) (v := .slice A9 (l.length - (i + 1)) (c1 - (i + 1))) rfl (by kernel_rfl) (by kernel_rfl) (by kernel_rfl) (fun _ _ _ h => h) hS rfl (fun w' _ => (ex_slL (lo := i + 1) _ _ rfl rfl rfl (by omega)).trans (by rw [hsl9])) ?_; try simp only [Zq])
    obtain ⟨v9, w9, hr, hown, hgr, hloc⟩ := run_cut rfl hrd.l hsd (show i < l.length by omega) (by omega) hWd
    have hSn := hS.grown hgr (show p1 ∈ [p1, p7] by simp)
    have hbg := hbd.grown hgr hbd.size (fun q hq => by cases hq; omega)
    have hr9 : RSl w9 W.heap.size v9 kv vv uv (l.eraseIdx i) t := ⟨hown, own_same hrd.k (fun q hq hx => hgr.block q hq (fun e2 => hrd.ne q e2.symm hx)), own_grown hrd.v hrd.l (by decide) hgr, own_grown hrd.u hrd.l (by decide) hgr, fun q hq hx => by
      rcases hloc with e | e
      · rw [e] at hq; exact hrd.ne q hq hx
      · rw [e] at hq
        have h9 := own_lt hrd.k q hx
        have : w5.drew.heap.size = q := Option.some.inj hq
        omega⟩
    have hx9 := look_grown (show w5.drew.heap[p7]? = _ from HP7.out) hrd.l (by decide) hgr
    have hg9 := look_grown (show w5.drew.heap[w.heap.size + 2]? = _ from HG3.out) hrd.l (by decide) hgr
    refine ha_do (i := 11) (by kernel_rfl) rfl rfl (ex_app29 _ _ rfl rfl rfl hr) hSn ?_; try simp only [Zq]
    replace hS := hSn
    refine hk3 (i := 12) rfl (by kernel_rfl) Zh hS rfl (fun K hK => ?_); go_simp; refine hK _ ?_; clear hK K; try simp only [Zq]
    refine ha_storeC (i := 13) (by kernel_rfl) rfl rfl 29 _ _ rfl p7 0 v9 rfl rfl (by kernel_rfl) (own_one hown) (by rw [(rc_cell hx9).1]; rfl) (frozen_of_row _ _ _ _ _ hx9) (hS.setCell (by simp) 0 _) (fun hS => ?_); try simp only [Zq]
    refine wpAnyH_done (by kernel_rfl) ?_ _
    have HR9 := Lib.hid (hr9.cell105 hx9 0 v9)
    have HP9 : Hid ((w9.setCell ⟨p7, 0, none⟩ v9).heap[p7]? = some (.cells (rcells v9 seed kv vv uv dd) 105 (0, 0))) := Lib.hid ((hs_new hx9).trans rfl)
    have HG9 : Hid ((w9.setCell ⟨p7, 0, none⟩ v9).heap[w.heap.size + 2]? = _) := Lib.hid (hs_old hg9 (show w.heap.size + 2 ≠ p7 by omega))
    have HB9 : Hid (Below w.heap.size w (w9.setCell ⟨p7, 0, none⟩ v9)) := Lib.hid (hbg.setCell (p := ⟨p7, 0, none⟩) (show w.heap.size ≤ p7 by omega) v9)
    clear hS hSn hbg hr9 hx9 hg9 hgr hown hr hrd hsd hbd hloc HR0 HR1 HBZ HP7 HG1 HG2 HG3 y0 o0 o1 o2 o3 o4 o5
    generalize w9.setCell ⟨p7, 0, none⟩ v9 = w10 at *
    go_upto_region 11 with (fail)
    apply wp_region_lit
    ((with_reducible apply wl_rowG); exact rfl; exact rfl; exact rowR HP9.out)
    try simp only [Zq]
    refine wl_putG (w.heap.size + 2) (rcells v9 seed kv vv uv dd) rfl rfl 105 _ HG9.out info105 rfl (HR9.out.one seed dd) ?_
    rw [put_noneA]
    have HFIN := Lib.hid (hr_new (cs := rcells v9 seed kv vv uv dd) HG9.out)
    have HRF := Lib.hid ((HR9.out.row105 HG9.out (rcells v9 seed kv vv uv dd)).weak (show w.heap.size ≤ W.heap.size by omega))
    have HBF := Lib.hid (below_setRow HB9.out (g := w.heap.size + 2) (by omega) (rcells v9 seed kv vv uv dd))
    go_wp2_with fail
    exact bodyPost_ret (res_105t rfl _ _ (w.heap.size + 2) rfl rfl HFIN.out) rfl ⟨_, rfl, ⟨_, _, _, _, by rw [HDD.out _ _], HRF.out⟩, HBF.out⟩
  · refine sh_val (i := 6) rfl rfl (ex_one rfl (one29 (show w5.drew.cell? _ = _ from y0))) hS ?_; try simp only [Zq]
    (refine ha_val (i := 10) (v := .slice A9 (l.length - (i + 1)) (c1 - (i + 1))) rfl (by kernel_rfl) (by kernel_rfl) (by kernel_rfl) (fun _ _ _ h => h) hS rfl (fun w' _ => (ex_slL (lo := i + 1) _ _ rfl rfl rfl (by omega)).trans (by rw [hsl9])) ?_; try simp only [Zq])
    refine ha_do (i := 1) (by kernel_rfl) rfl rfl (ex_one rfl (one29 (show w5.drew.cell? _ = _ from y0))) hS ?_; try simp only [Zq]
    (refine ha_val (i := 4) (v := .slice (some ⟨p1, 0, none⟩) i c1) rfl (by kernel_rfl) (by kernel_rfl) (by kernel_rfl) (fun _ _ _ h => h) hS rfl (fun w' _ => (ex_slH (hi := i) _ _ rfl rfl rfl (by omega)).trans (by rw [sliced_zero])) ?_; try simp only [Zq])
    obtain ⟨v9, w9, hr, hown, hgr, hloc⟩ := run_cut rfl hrd.l hsd (show i < l.length by omega) (by omega) hWd
    have hSn := hS.grown hgr (show p1 ∈ [p1, p7] by simp)
    have hbg := hbd.grown hgr hbd.size (fun q hq => by cases hq; omega)
    have hr9 : RSl w9 W.heap.size v9 kv vv uv (l.eraseIdx i) t := ⟨hown, own_same hrd.k (fun q hq hx => hgr.block q hq (fun e2 => hrd.ne q e2.symm hx)), own_grown hrd.v hrd.l (by decide) hgr, own_grown hrd.u hrd.l (by decide) hgr, fun q hq hx => by
      rcases hloc with e | e
      · rw [e] at hq; exact hrd.ne q hq hx
      · rw [e] at hq
        have h9 := own_lt hrd.k q hx
        have : w5.drew.heap.size = q := Option.some.inj hq
        omega⟩
    have hx9 := look_grown (show w5.drew.heap[p7]? = _ from HP7.out) hrd.l (by decide) hgr
    have hg9 := look_grown (show w5.drew.heap[w.heap.size + 2]? = _ from HG3.out) hrd.l (by decide) hgr
    refine ha_do (i := 11) (by kernel_rfl) rfl rfl (ex_app29 _ _ rfl rfl rfl hr) hSn ?_; try simp only [Zq]
    replace hS := hSn
    refine hk3 (i := 12) rfl (by kernel_rfl) Zh hS rfl (fun K hK => ?_); go_simp; refine hK _ ?_; clear hK K; try simp only [Zq]
    refine ha_storeC (i := 13) (by kernel_rfl) rfl rfl 29 _ _ rfl p7 0 v9 rfl rfl (by kernel_rfl) (own_one hown) (by rw [(rc_cell hx9).1]; rfl) (frozen_of_row _ _ _ _ _ hx9) (hS.setCell (by simp) 0 _) (fun hS => ?_); try simp only [Zq]
    refine wpAnyH_done (by kernel_rfl) ?_ _
    have HR9 := Lib.hid (hr9.cell105 hx9 0 v9)
    have HP9 : Hid ((w9.setCell ⟨p7, 0, none⟩ v9).heap[p7]? = some (.cells (rcells v9 seed kv vv uv dd) 105 (0, 0))) := Lib.hid ((hs_new hx9).trans rfl)
    have HG9 : Hid ((w9.setCell ⟨p7, 0, none⟩ v9).heap[w.heap.size + 2]? = _) := Lib.hid (hs_old hg9 (show w.heap.size + 2 ≠ p7 by omega))
    have HB9 : Hid (Below w.heap.size w (w9.setCell ⟨p7, 0, none⟩ v9)) := Lib.hid (hbg.setCell (p := ⟨p7, 0, none⟩) (show w.heap.size ≤ p7 by omega) v9)
    clear hS hSn hbg hr9 hx9 hg9 hgr hown hr hrd hsd hbd hloc HR0 HR1 HBZ HP7 HG1 HG2 HG3 y0 o0 o1 o2 o3 o4 o5
    generalize w9.setCell ⟨p7, 0, none⟩ v9 = w10 at *
    go_upto_region 11 with (fail)
    apply wp_region_lit
    ((with_reducible apply wl_rowG); exact rfl; exact rfl; exact rowR HP9.out)
    try simp only [Zq]
    refine wl_putG (w.heap.size + 2) (rcells v9 seed kv vv uv dd) rfl rfl 105 _ HG9.out info105 rfl (HR9.out.one seed dd) ?_
    rw [put_noneA]
    have HFIN := Lib.hid (hr_new (cs := rcells v9 seed kv vv uv dd) HG9.out)
    have HRF := Lib.hid ((HR9.out.row105 HG9.out (rcells v9 seed kv vv uv dd)).weak (show w.heap.size ≤ W.heap.size by omega))
    have HBF := Lib.hid (below_setRow HB9.out (g := w.heap.size + 2) (by omega) (rcells v9 seed kv vv uv dd))
    go_wp2_with fail
    exact bodyPost_ret (res_105t rfl _ _ (w.heap.size + 2) rfl rfl HFIN.out) rfl ⟨_, rfl, ⟨_, _, _, _, by rw [HDD.out _ _], HRF.out⟩, HBF.out⟩
theorem refB_parts {b : Buf} {o : OpV} (hr : refB b o = 0) : ¬ ((useG o.kind).kind ≠ 0 ∧ b.kd ≠ (useG o.kind).kind) ∧ ¬ (((useG o.kind).key = true ∧ 24 < o.key.size) ∨ (o.kind = 8 ∧ (o.n < 0 ∨ 2147483647 < o.n))) ∧ ¬ ((o.kind = 4 ∨ o.kind = 5) ∧ (o.at_ < 0 ∨ (b.l.length : Int) ≤ o.at_)) ∧ ¬ (o.kind = 10 ∧ fnd b.seed b.t o.key < 0) := by
  unfold refB at hr
  split at hr
  · exact absurd hr (by decide)
  split at hr
  · exact absurd hr (by decide)
  split at hr
  · exact absurd hr (by decide)
  split at hr
  · exact absurd hr (by decide)
  split at hr
  · exact absurd hr (by decide)
  split at hr
  · exact absurd hr (by decide)
  rename_i h1 h2 h3 h4 h5 h6
  exact ⟨h2, h3, h4, h6⟩
/-- whether the buffer is another one behind the change -/
def chB (b : Buf) (o : OpV) : Bool :=
  if o.kind = 4 then !decide (b.l.getD o.at_.toNat ByteArray.empty = o.key) else
  if o.kind = 7 then !decide (sortL b.l = b.l) else
  if o.kind = 9 then (match findT (HH b.seed) b.t o.key with
    | none => true
    | some i => !decide (ev (pl b.t i) = o.n)) else true
theorem changedI_any (v : Value) (b : Buf) (o : OpV) (B : Nat) (hg : GoodB b) (hr : refB b o = 0) (hk : o.kind = 3 ∨ o.kind = 4 ∨ o.kind = 5 ∨ o.kind = 7 ∨ o.kind = 9 ∨ o.kind = 10) (w : World) (h : RAt w B v b) :
    Calls Try.prog 68 #[v, .agg o.cells] w fun e w' => ∃ v', e = .returned (.tuple #[v', .bool (chB b o)]) ∧ RAt w' w.heap.size v' (if chB b o then newB b o else b) ∧ Below w.heap.size w w' := by
  obtain ⟨p1, p2, p3, p4⟩ := refB_parts hr
  have hlen := hg.len
  have hl : b.l.length ≤ 100000 := by omega
  have hn : b.t.length ≤ 100000 := by omega
  rcases hk with hk | hk | hk | hk | hk | hk
  · have e1 : chB b o = true := by unfold chB; rw [hk]; rfl
    rw [e1]
    have e2 : newB b o = { b with l := b.l ++ [o.key] } := by unfold newB; rw [hk]; rfl
    rw [if_pos rfl, e2]
    exact changedI_app v b o B hk hn hl w h
  · have hat : 0 ≤ o.at_ ∧ o.at_ < b.l.length := by
      have := p3
      rw [hk] at this
      simp at this
      omega
    obtain ⟨i, hi⟩ : ∃ i : Nat, o.at_ = (i : Int) := ⟨o.at_.toNat, by omega⟩
    have hil : i < b.l.length := by omega
    have hx : b.l[i]? = some b.l[i] := List.getElem?_eq_getElem hil
    have e0 : b.l.getD o.at_.toNat ByteArray.empty = b.l[i] := by rw [hi]; simp [List.getD, hil]
    have e1 : chB b o = !decide (b.l[i] = o.key) := by unfold chB; rw [hk, e0]; rfl
    have h9 := changedI_put v b o B hk i hi b.l[i] hx hn hl w h
    rw [e1]
    refine h9.mono ?_
    rintro e w' ⟨v', h1, h2, h3⟩
    refine ⟨v', h1, ?_, h3⟩
    by_cases hxe : b.l[i] = o.key
    · have e2 : { b with l := b.l.set i o.key } = b := by
        have : b.l.set i o.key = b.l := set_same _ _ _ (by rw [hx, hxe])
        rw [this]
      rw [e2] at h2
      simpa [hxe] using h2
    · have e2 : newB b o = { b with l := b.l.set i o.key } := by
        unfold newB
        rw [hk, e0, if_neg (by decide), if_neg (by decide), if_neg (by decide), if_pos rfl, if_neg hxe, hi]; rfl
      rw [e2]
      simpa [hxe] using h2
  · have hat : 0 ≤ o.at_ ∧ o.at_ < b.l.length := by
      have := p3
      rw [hk] at this
      simp at this
      omega
    obtain ⟨i, hi⟩ : ∃ i : Nat, o.at_ = (i : Int) := ⟨o.at_.toNat, by omega⟩
    have e1 : chB b o = true := by unfold chB; rw [hk]; rfl
    have e2 : newB b o = { b with l := b.l.eraseIdx i } := by unfold newB; rw [hk, hi]; rfl
    rw [e1, if_pos rfl, e2]
    exact changedI_cut v b o B hk i hi (by omega) hn hl w h
  · have e1 : chB b o = !decide (sortL b.l = b.l) := by unfold chB; rw [hk]; rfl
    rw [e1]
    refine (changedI_sort v b o B hk hn hl w h).mono ?_
    rintro e w' ⟨v', h1, h2, h3⟩
    refine ⟨v', h1, ?_, h3⟩
    by_cases hxe : sortL b.l = b.l
    · have e2 : { b with l := sortL b.l } = b := by rw [hxe]
      rw [e2] at h2
      simpa [hxe] using h2
    · have e2 : newB b o = { b with l := sortL b.l } := by
        unfold newB
        rw [hk, if_neg (by decide), if_neg (by decide), if_neg (by decide), if_neg (by decide), if_neg (by decide), if_neg (by decide), if_pos rfl, sortedB_eq, if_neg (by simpa using hxe)]
      rw [e2]
      simpa [hxe] using h2
  · have hkd : b.kd = 2 := by
      have := p1
      rw [hk] at this
      have h9 : (useG 9).kind = 2 := by decide
      rw [h9] at this
      omega
    have hks : o.key.size ≤ 24 := by
      have := p2
      rw [hk] at this
      have h9 : (useG 9).key = true := by decide
      rw [h9] at this
      simp at this
      omega
    rcases hg with ⟨h1, _⟩ | ⟨-, h2, h3, h4, h5, h6, h7, h8, h10⟩
    · omega
    cases hf : findT (HH b.seed) b.t o.key with
    | none =>
      have e1 : chB b o = true := by unfold chB; rw [hk, hf]; rfl
      have e2 : newB b o = { b with t := addT (HH b.seed) b.t o.key o.n } := by unfold newB; rw [hk, hf]; rfl
      rw [e1, if_pos rfl, e2]
      exact changedI_new v b o B hk (by unfold fnd; rw [hf]) hkd h4 h5 h6 (by omega) (by omega) (by omega) w h
    | some i =>
      obtain ⟨hi, x, hx⟩ := find_of (HH b.seed) h5.gap hf
      have e0 : ev (pl b.t i) = x := by rw [hx]; rfl
      have e1 : chB b o = !decide (x = o.n) := by unfold chB; rw [hk, hf]; simp only [e0]; rfl
      rw [e1]
      refine (changedI_set v b o B hk i (by unfold fnd; rw [hf]) x hi hx h5 hn hl w h).mono ?_
      rintro e w' ⟨v', g1, g2, g3⟩
      refine ⟨v', g1, ?_, g3⟩
      by_cases hxe : x = o.n
      · have e2 : { b with t := setT b.t i o.key o.n } = b := by
          have : setT b.t i o.key o.n = b.t := by unfold setT; exact set_same _ _ _ (by rw [pl_get hi, hx, hxe])
          rw [this]
        rw [e2] at g2
        simpa [hxe] using g2
      · have e2 : newB b o = { b with t := setT b.t i o.key o.n } := by
          unfold newB
          rw [hk, hf]
          simp only [Int.reduceEq, reduceIte, e0, if_neg hxe]
        rw [e2]
        simpa [hxe] using g2
  · have hkd : b.kd = 2 := by
      have := p1
      rw [hk] at this
      have h9 : (useG 10).kind = 2 := by decide
      rw [h9] at this
      omega
    have hks : o.key.size ≤ 24 := by
      have := p2
      rw [hk] at this
      have h9 : (useG 10).key = true := by decide
      rw [h9] at this
      simp at this
      omega
    rcases hg with ⟨h1, _⟩ | ⟨-, h2, h3, h4, h5, h6, h7, h8, h10⟩
    · omega
    cases hf : findT (HH b.seed) b.t o.key with
    | none => exact absurd ⟨hk, fnd_neg hf⟩ p4
    | some i =>
      obtain ⟨hi, x, hx⟩ := find_of (HH b.seed) h5.gap hf
      have e1 : chB b o = true := by unfold chB; rw [hk]; rfl
      have e2 : newB b o = { b with t := removeT (HH b.seed) b.t i } := by unfold newB; rw [hk, hf]; rfl
      rw [e1, if_pos rfl, e2]
      exact changedI_del v b o B hk i (by unfold fnd; rw [hf]) h5 h6 hi (occ_iff.2 ⟨_, _, hx⟩) (by omega) hn hl w h
def sc66 (nv bv : Value) (made shared : Int) : Array Value := #[nv, bv, .int .i64 made, .int .i64 shared]
def numN : Option Nat → Int
  | none => -1
  | some k => (k : Int)
/-- the rows of the document's buffers, at B or behind; none of their columns is the row of the names -/
def BufsAt (w : World) (B : Nat) (nv bv : Value) (bs : List Buf) : Prop := ∃ L : List (Array Value), L.length = bs.length ∧ (∀ (k : Nat) (cs : Array Value), L[k]? = some cs → ∀ q, nv.ownBlock = some q → ¬ RFoot (.agg cs) q) ∧ w.ownsRow B 105 6 bv bs.length (L.flatMap Array.toList) ∧ ∀ (k : Nat) (cs : Array Value) (b : Buf), L[k]? = some cs → bs[k]? = some b → RAt w B (.agg cs) b
/-- the document's store: its names, its buffers -/
def DAt (w : World) (B : Nat) (v : Value) (A : Sto) : Prop := ∃ nv bv, v = .agg (sc66 nv bv A.made A.shared) ∧ w.ownsRow B 3 1 nv 8 (ints (A.names.map numN)) ∧ BufsAt w B nv bv A.bufs
theorem u66 : Try.prog.underlying 66 = some (.struct (Try.prog.fieldsOf 66)) := by kernel_rfl
theorem info66 : (Try.prog.info? 66).map (·.size) = some 4 := by kernel_rfl
theorem run_bs63_8 (w : World) : (Instr.buildSlice 63 8 #[(0, .int .i64 (-1)), (1, .int .i64 (-1)), (2, .int .i64 (-1)), (3, .int .i64 (-1)), (4, .int .i64 (-1)), (5, .int .i64 (-1)), (6, .int .i64 (-1)), (7, .int .i64 (-1))]).run Try.prog w = .ok (.slice (some ⟨w.heap.size, 0, none⟩) 8 8) (w.alloc (.cells #[.int .i64 (-1), .int .i64 (-1), .int .i64 (-1), .int .i64 (-1), .int .i64 (-1), .int .i64 (-1), .int .i64 (-1), .int .i64 (-1)] 3)) := by kernel_rfl
theorem ex_alloc66 {o : Oper} (ho : o.op = .alloc 66) (ev : Operand → Value) (w : World) : (execOp ev o).run Try.prog w = .ok (.value (.pointer (some ⟨w.heap.size, 0, none⟩))) (w.alloc (.cells (sc66 (.slice none 0 0) (.slice none 0 0) 0 0) 66)) := by
  unfold execOp
  simp only [ho]
  kernel_rfl
theorem own_eight (w : World) : (w.alloc (.cells #[.int .i64 (-1), .int .i64 (-1), .int .i64 (-1), .int .i64 (-1), .int .i64 (-1), .int .i64 (-1), .int .i64 (-1), .int .i64 (-1)] 3)).ownsRow w.heap.size 3 1 (.slice (some ⟨w.heap.size, 0, none⟩) 8 8) 8 (ints (newA.names.map numN)) := by
  refine ⟨by simp [ints, newA], Or.inr ⟨w.heap.size, 8, _, rfl, Nat.le_refl _, ha_new rfl, by omega, by unfold maxLen; omega, by simp, ?_⟩⟩
  rfl
theorem ex_bs63_8 {ev : Operand → Value} {o : Oper} {w : World} (ho : o.op = .buildSlice 63 8 #[(0, .const (.int .i64 (-1))), (1, .const (.int .i64 (-1))), (2, .const (.int .i64 (-1))), (3, .const (.int .i64 (-1))), (4, .const (.int .i64 (-1))), (5, .const (.int .i64 (-1))), (6, .const (.int .i64 (-1))), (7, .const (.int .i64 (-1)))]) (hc : ∀ v, ev (.const v) = v) :
    (execOp ev o).run Try.prog w = .ok (.value (.slice (some ⟨w.heap.size, 0, none⟩) 8 8)) (w.alloc (.cells #[.int .i64 (-1), .int .i64 (-1), .int .i64 (-1), .int .i64 (-1), .int .i64 (-1), .int .i64 (-1), .int .i64 (-1), .int .i64 (-1)] 3)) := by
  unfold execOp
  simp [ho, hc, run_bs63_8, Result.andThen]
theorem built66 (A : Option Addr) (n c : Nat) : Try.prog.built 66 [(0, .slice A n c)] = some (sc66 (.slice A n c) (.slice none 0 0) 0 0) := by kernel_rfl
theorem rowS {w : World} {g : Nat} {nv bv : Value} {m s : Int} (h : w.heap[g]? = some (.cells (sc66 nv bv m s) 66 (0, 0))) : RowAt w 66 ⟨g, 0, none⟩ (sc66 nv bv m s) :=
  row_mid (off := 0) h (D := sc66 nv bv m s) (n := 4) (by simp [sc66]) u66 rfl rfl info66
theorem res_66 {fn : Func} {p : Tmp} (h : fn.results = #[.cell p 66]) (tmps : Array Value) (w : World) (g : Nat) (hp : tmps.getD p undef = .pointer (some ⟨g, 0, none⟩)) {nv bv : Value} {m s : Int}
    (hg : w.heap[g]? = some (.cells (sc66 nv bv m s) 66 (0, 0))) : (results fn tmps).run Try.prog w = .ok (.agg (sc66 nv bv m s)) w := by
  have hp' : tmps[p]?.getD undef = .pointer (some ⟨g, 0, none⟩) := by simpa using hp
  have l1 : (loadVar 66 ⟨g, 0, none⟩).run Try.prog w = .ok (.agg (sc66 nv bv m s)) w := by have := rowS hg; unfold RowAt at this; exact this
  unfold results
  simp [h, hp', asAddr, l1, Result.andThen]
theorem NewI_any (w : World) : Calls Try.prog 38 #[] w fun e w' => ∃ v, e = .returned v ∧ DAt w' w.heap.size v newA ∧ Below w.heap.size w w' := by
  go_enter Try.func38, Try.ntmps38
  go_upto_region 1 with (fail)
  refine wp_world (fun W => Below w.heap.size w W ∧ W.heap[w.heap.size]? = some (.cells (sc66 (.slice none 0 0) (.slice none 0 0) 0 0) 66 (0, 0))) ⟨(Below.refl w.heap.size w).alloc (Nat.le_refl _) _, ha_new rfl⟩ ?_
  rintro W ⟨hb, g1⟩
  have hlt := heap_lt g1
  apply wp_region_lit
  refine wl_w rfl (ex_bs63_8 rfl (fun _ => rfl)) ?_
  simp only [Zq]
  have ho := own_weak (own_eight W) hb.size
  have hb2 := hb.alloc hb.size (.cells #[.int .i64 (-1), .int .i64 (-1), .int .i64 (-1), .int .i64 (-1), .int .i64 (-1), .int .i64 (-1), .int .i64 (-1), .int .i64 (-1)] 3)
  have g2 := ha_old (o := .cells #[.int .i64 (-1), .int .i64 (-1), .int .i64 (-1), .int .i64 (-1), .int .i64 (-1), .int .i64 (-1), .int .i64 (-1), .int .i64 (-1)] 3) g1
  obtain ⟨p, hp⟩ : ∃ p, p = W.heap.size := ⟨_, rfl⟩
  rw [← hp] at ho ⊢
  have hpw : w.heap.size < p := by omega
  generalize W.alloc (.cells #[.int .i64 (-1), .int .i64 (-1), .int .i64 (-1), .int .i64 (-1), .int .i64 (-1), .int .i64 (-1), .int .i64 (-1), .int .i64 (-1)] 3) = w2 at *
  refine wl_val rfl (ex_build 66 _ rfl (L := [(0, .slice (some ⟨p, 0, none⟩) 8 8)]) rfl (built66 _ _ _)) ?_
  simp only [Zq]
  refine wl_putG w.heap.size (sc66 (.slice (some ⟨p, 0, none⟩) 8 8) (.slice none 0 0) 0 0) rfl rfl 66 _ g2 info66 rfl (by simp [sc66, Value.oneCell']) ?_
  rw [put_noneA]
  have HFIN := Lib.hid (hr_new (cs := sc66 (.slice (some ⟨p, 0, none⟩) 8 8) (.slice none 0 0) 0 0) g2)
  have HO := Lib.hid (own_setRow ho (p := w.heap.size) (fun e => by have : p = w.heap.size := Option.some.inj e; omega) (sc66 (.slice (some ⟨p, 0, none⟩) 8 8) (.slice none 0 0) 0 0))
  have HB := Lib.hid (below_setRow hb2 (g := w.heap.size) (Nat.le_refl _) (sc66 (.slice (some ⟨p, 0, none⟩) 8 8) (.slice none 0 0) 0 0))
  clear ho hb2 g2 g1 hb hp
  go_wp2_with fail
  exact bodyPost_ret (res_66 rfl _ _ w.heap.size rfl HFIN.out) rfl ⟨_, rfl, ⟨_, _, rfl, HO.out, [], rfl, fun k cs h => by simp at h, own_nil _ _ _ _, fun k cs b h => by simp at h⟩, HB.out⟩
theorem RAt.same {w w' : World} {B : Nat} {v : Value} {b : Buf} (h : RAt w B v b) (hs : ∀ q, B ≤ q → q < w.heap.size → w'.heap[q]? = w.heap[q]?) : RAt w' B v b := by
  obtain ⟨lv, kv, vv, uv, rfl, h⟩ := h
  exact ⟨lv, kv, vv, uv, rfl, own_same h.l (fun q hq hx => hs q (own_block h.l hx).1 hq), own_same h.k (fun q hq hx => hs q (own_block h.k hx).1 hq), own_same h.v (fun q hq hx => hs q (own_block h.v hx).1 hq), own_same h.u (fun q hq hx => hs q (own_block h.u hx).1 hq), h.ne⟩
theorem BufsAt.below {w w' : World} {B : Nat} {nv bv : Value} {bs : List Buf} (h : BufsAt w B nv bv bs) (hb : Below w.heap.size w w') : BufsAt w' B nv bv bs := by
  obtain ⟨L, h1, h2, h3, h4⟩ := h
  exact ⟨L, h1, h2, own_below h3 hb, fun k cs b hk hb2 => (h4 k cs b hk hb2).below hb⟩
theorem BufsAt.weak {w : World} {B B' : Nat} {nv bv : Value} {bs : List Buf} (h : BufsAt w B nv bv bs) (hb : B' ≤ B) : BufsAt w B' nv bv bs := by
  obtain ⟨L, h1, h2, h3, h4⟩ := h
  exact ⟨L, h1, h2, own_weak h3 hb, fun k cs b hk hb2 => (h4 k cs b hk hb2).weak hb⟩
theorem DAt.below {w w' : World} {B : Nat} {v : Value} {A : Sto} (h : DAt w B v A) (hb : Below w.heap.size w w') : DAt w' B v A := by
  obtain ⟨nv, bv, h1, h2, h3⟩ := h
  exact ⟨nv, bv, h1, own_below h2 hb, h3.below hb⟩
theorem DAt.weak {w : World} {B B' : Nat} {v : Value} {A : Sto} (h : DAt w B v A) (hb : B' ≤ B) : DAt w B' v A := by
  obtain ⟨nv, bv, h1, h2, h3⟩ := h
  exact ⟨nv, bv, h1, own_weak h2 hb, h3.weak hb⟩
theorem DAt.same {w w' : World} {B : Nat} {v : Value} {A : Sto} (h : DAt w B v A) (hs : ∀ q, B ≤ q → q < w.heap.size → w'.heap[q]? = w.heap[q]?) : DAt w' B v A := by
  obtain ⟨nv, bv, h1, h2, L, g1, g2, g3, g4⟩ := h
  exact ⟨nv, bv, h1, own_same h2 (fun q hq hx => hs q (own_block h2 hx).1 hq), L, g1, g2, own_same g3 (fun q hq hx => hs q (own_block g3 hx).1 hq), fun k cs b hk hb2 => (g4 k cs b hk hb2).same hs⟩
theorem flat_get : ∀ {L : List (Array Value)} {k : Nat} {cs : Array Value}, (∀ c ∈ L, c.size = 6) → L[k]? = some cs → ∀ j, j < 6 → (L.flatMap Array.toList)[k * 6 + j]? = cs[j]?
  | [], k, cs, _, h, _, _ => by simp at h
  | x :: L, 0, cs, hz, h, j, hj => by
    simp at h; subst h
    have := hz x (by simp)
    rw [List.flatMap_cons, List.getElem?_append_left (by simp; omega)]
    simp
  | x :: L, k + 1, cs, hz, h, j, hj => by
    have hx := hz x (by simp)
    rw [List.flatMap_cons, List.getElem?_append_right (by simp; omega)]
    have := flat_get (L := L) (k := k) (fun c hc => hz c (by simp [hc])) (by simpa using h) j hj
    rw [show (k + 1) * 6 + j - x.toList.length = k * 6 + j by simp [hx]; omega]
    exact this
theorem BufsAt.six {w : World} {B : Nat} {L : List (Array Value)} {bs : List Buf} (h : L.length = bs.length) (hall : ∀ (k : Nat) (cs : Array Value) (b : Buf), L[k]? = some cs → bs[k]? = some b → RAt w B (.agg cs) b) : ∀ c ∈ L, c.size = 6 := fun c hc => by
  obtain ⟨k, hk⟩ := List.getElem?_of_mem hc
  have hkl := (List.getElem?_eq_some_iff.1 hk).1
  obtain ⟨lv, kv, vv, uv, he, _⟩ := hall k c (bs[k]'(by omega)) hk (List.getElem?_eq_getElem (by omega))
  cases he; rfl
/-- the rows of the document's buffers, one by one -/
theorem BufsAt.cells {w : World} {B : Nat} {nv bv : Value} {bs : List Buf} (h : BufsAt w B nv bv bs) (hn : 1 ≤ bs.length) : ∃ q cap cur, bv = .slice (some ⟨q, 0, none⟩) bs.length cap ∧ B ≤ q ∧ w.heap[q]? = some (.cells cur 105 (0, 0)) ∧ ∀ (k : Nat) (b : Buf), bs[k]? = some b → ∃ lv kv vv uv : Value,
    cur.extract (k * 6) (k * 6 + 6) = rcells lv b.seed kv vv uv (isD b) ∧ w.cell? ⟨q, k * 6 + 5, none⟩ = some (.bool (isD b)) ∧ RSl w B lv kv vv uv b.l b.t ∧ (∀ x, nv.ownBlock = some x → ¬ RFoot (.agg (rcells lv b.seed kv vv uv (isD b))) x) := by
  obtain ⟨L, hL, hN, hr, hall⟩ := h
  have hsix := BufsAt.six hL hall
  rcases hr.2 with ⟨_, h0⟩ | ⟨q, cap, cur, hv, hB, hg, h1, h2, h3, h4⟩
  · omega
  · refine ⟨q, cap, cur, hv, hB, hg, fun k b hk => ?_⟩
    have hkl := (List.getElem?_eq_some_iff.1 hk).1
    obtain ⟨cs, hcs⟩ : ∃ p, L[k]? = some p := ⟨_, List.getElem?_eq_getElem (by omega)⟩
    obtain ⟨lv, kv, vv, uv, he, hR⟩ := hall k cs b hcs hk
    cases he
    have key : ∀ j, j < 6 → cur[k * 6 + j]? = (rcells lv b.seed kv vv uv (isD b))[j]? := fun j hj => by
      rw [← flat_get hsix hcs j hj, ← h4, List.getElem?_take_of_lt (by omega)]; simp
    refine ⟨lv, kv, vv, uv, ?_, ?_, hR, hN k _ hcs⟩
    · have hz : k * 6 + 6 ≤ cur.size := by omega
      apply Array.ext
      · simp [rcells]; omega
      · intro j hj1 hj2
        have hj : j < 6 := by simp [rcells] at hj2; omega
        have := key j hj
        rw [Array.getElem?_eq_getElem (by omega), Array.getElem?_eq_getElem hj2] at this
        rw [Array.getElem_extract]
        exact Option.some.inj this
    · rw [cell_of_row _ _ _ _ _ _ hg]; exact key 5 (by omega)
theorem u64 : Try.prog.underlying 64 = some (.slice 105) := by kernel_rfl
theorem info105b : (Try.prog.info? 105).map (fun i => (i.zero, i.size, i.bytes)) = some (some (.agg noR), 6, 112) := by kernel_rfl
theorem run_bs64_1 {A1 A2 A3 A4 : Option Addr} {n1 n2 n3 n4 c1 c2 c3 c4 : Nat} {seed : Int} {d : Bool} (w : World) : (Instr.buildSlice 64 1 #[(0, .agg (rcells (.slice A1 n1 c1) seed (.slice A2 n2 c2) (.slice A3 n3 c3) (.slice A4 n4 c4) d))]).run Try.prog w = .ok (.slice (some ⟨w.heap.size, 0, none⟩) 1 1) (w.alloc (.cells (rcells (.slice A1 n1 c1) seed (.slice A2 n2 c2) (.slice A3 n3 c3) (.slice A4 n4 c4) d) 105)) := by kernel_rfl
theorem RSl.shapes {w : World} {B : Nat} {lv kv vv uv : Value} {l : List ByteArray} {t : Tab} (h : RSl w B lv kv vv uv l t) : ∃ A1 c1 A2 c2 A3 c3 A4 c4, lv = .slice A1 l.length c1 ∧ kv = .slice A2 t.length c2 ∧ vv = .slice A3 t.length c3 ∧ uv = .slice A4 t.length c4 := by
  obtain ⟨A1, c1, h1⟩ := own_shape h.l
  obtain ⟨A2, c2, h2⟩ := own_shape h.k
  obtain ⟨A3, c3, h3⟩ := own_shape h.v
  obtain ⟨A4, c4, h4⟩ := own_shape h.u
  exact ⟨A1, c1, A2, c2, A3, c3, A4, c4, h1, h2, h3, h4⟩
theorem ex_bs64_1 {ev : Operand → Value} {o : Oper} {w : World} (x : Operand) (ho : o.op = .buildSlice 64 1 #[(0, x)]) {B : Nat} {W : World} {lv kv vv uv : Value} {l : List ByteArray} {t : Tab} {seed : Int} {d : Bool} (h : RSl W B lv kv vv uv l t) (hx : ev x = .agg (rcells lv seed kv vv uv d)) :
    (execOp ev o).run Try.prog w = .ok (.value (.slice (some ⟨w.heap.size, 0, none⟩) 1 1)) (w.alloc (.cells (rcells lv seed kv vv uv d) 105)) := by
  obtain ⟨A1, c1, A2, c2, A3, c3, A4, c4, rfl, rfl, rfl, rfl⟩ := h.shapes
  unfold execOp
  simp [ho, hx, run_bs64_1, Result.andThen]
/-- a buffer put behind the others: the new row lies in block q -/
theorem run_push64 {w : World} {B q : Nat} {nv bv : Value} {bs : List Buf} {b : Buf} {lv kv vv uv : Value} (ty : TypeId) (ho : BufsAt w B nv bv bs) (hB : B ≤ w.heap.size) (h1 : bs.length ≤ 1000000)
    (hr : RSl w B lv kv vv uv b.l b.t) (hnv : ∀ x, nv.ownBlock = some x → ¬ RFoot (.agg (rcells lv b.seed kv vv uv (isD b))) x) (hq : w.heap[q]? = some (.cells (rcells lv b.seed kv vv uv (isD b)) 105 (0, 0))) :
    ∃ v' w', (Builtin.append_ #[64, 64] ty #[bv, .slice (some ⟨q, 0, none⟩) 1 1]).run Try.prog w = .ok v' w' ∧ BufsAt w' B nv v' (bs ++ [b]) ∧ Below B w w' ∧ (∀ (x : Nat) (cs : Array Value) (e : TypeId), e ≠ 105 → w.heap[x]? = some (.cells cs e (0, 0)) → w'.heap[x]? = some (.cells cs e (0, 0))) ∧ (∀ (B' : Nat) (e : TypeId) (size n : Nat) (x : Value) (xs : List Value), w.ownsRow B' e size x n xs → e ≠ 105 → w'.ownsRow B' e size x n xs) := by
  obtain ⟨i0, hi, hz0, hz1, hz2⟩ := info_parts info105b
  obtain ⟨L, hL, hN, hw, hall⟩ := ho
  obtain ⟨A1, c1, A2, c2, A3, c3, A4, c4, rfl, rfl, rfl, rfl⟩ := hr.shapes
  obtain ⟨v', w', h2, h3, h4, _, _⟩ := run_append_own_at (P := Try.prog) w B 64 ty 105 i0 _ 6 112 u64 hi hz0 hz1 hz2 rfl (by decide) bv bs.length _ hw ⟨q, 0, none⟩ 1 1 (rcells (.slice A1 b.l.length c1) b.seed (.slice A2 b.t.length c2) (.slice A3 b.t.length c3) (.slice A4 b.t.length c4) (isD b)).toList rfl (cells_at hq)
    (by intro u hu; simp [rcells] at hu; rcases hu with rfl | rfl | rfl | rfl | rfl | rfl <;> rfl) (by unfold maxLen; omega) (by omega) hB
  have hsame : ∀ x, bv.ownBlock ≠ some x → x < w.heap.size → w'.heap[x]? = w.heap[x]? := fun x hne hx => h4.block x hx (fun e => hne e.symm)
  have hoth : ∀ {B' : Nat} {e : TypeId} {size n : Nat} {x : Value} {xs : List Value}, w.ownsRow B' e size x n xs → e ≠ 105 → w'.ownsRow B' e size x n xs := fun h he => own_same h (fun x hx hx2 => hsame x (fun e2 => by
    obtain ⟨_, d1, hd1⟩ := own_block h hx2
    obtain ⟨_, d2, hd2⟩ := own_block hw e2
    rw [hd1] at hd2; simp only [Option.some.injEq, Obj.cells.injEq] at hd2; exact he hd2.2.1) hx)
  have hRS : ∀ {lv kv vv uv : Value} {l : List ByteArray} {t : Tab}, RSl w B lv kv vv uv l t → RSl w' B lv kv vv uv l t := fun h => ⟨hoth h.l (by decide), hoth h.k (by decide), hoth h.v (by decide), hoth h.u (by decide), h.ne⟩
  refine ⟨v', w', h2, ⟨L ++ [_], by simp [hL], fun k cs hk => ?_, by rw [List.flatMap_append, List.length_append]; simpa using h3, fun k cs x hk hx => ?_⟩, (Below.refl B w).grown h4 (by omega) (fun x hx => (own_block hw hx).1), fun x cs e he hx => ?_, fun B' e size n x xs h he => hoth h he⟩
  · by_cases e : k < L.length
    · rw [List.getElem?_append_left e] at hk; exact hN k cs hk
    · rw [List.getElem?_append_right (by omega)] at hk
      have := List.mem_of_getElem? hk
      simp at this; subst this
      exact hnv
  · by_cases e : k < bs.length
    · rw [List.getElem?_append_left e] at hx
      rw [List.getElem?_append_left (by omega)] at hk
      obtain ⟨a1, a2, a3, a4, he, hR⟩ := hall k cs x hk hx
      exact ⟨a1, a2, a3, a4, he, hRS hR⟩
    · rw [List.getElem?_append_right (by omega)] at hk hx
      have e1 := List.mem_of_getElem? hk
      have e2 := List.mem_of_getElem? hx
      simp at e1 e2
      subst e1 e2
      exact ⟨_, _, _, _, rfl, hRS hr⟩
  · have := heap_lt hx
    rw [hsame x (fun e2 => by
      obtain ⟨_, d2, hd2⟩ := own_block hw e2
      rw [hx] at hd2; simp only [Option.some.injEq, Obj.cells.injEq] at hd2; exact he hd2.2.1) this]
    exact hx
theorem one64 {w : World} {ad : Addr} {v : Value} (h : w.cell? ad = some v) : OneAt w 64 ad v := one_of u64 rfl h
theorem s66_cell {w : World} {g : Nat} {nv bv : Value} {m s : Int} (h : w.heap[g]? = some (.cells (sc66 nv bv m s) 66 (0, 0))) :
    w.cell? ⟨g, 0, none⟩ = some nv ∧ w.cell? ⟨g, 1, none⟩ = some bv ∧ w.cell? ⟨g, 2, none⟩ = some (.int .i64 m) ∧ w.cell? ⟨g, 3, none⟩ = some (.int .i64 s) := by
  rw [cell_of_row _ _ _ _ _ _ h, cell_of_row _ _ _ _ _ _ h, cell_of_row _ _ _ _ _ _ h, cell_of_row _ _ _ _ _ _ h]
  exact ⟨rfl, rfl, rfl, rfl⟩
theorem own_cellT {w : World} {B e size n g : Nat} {x : Value} {xs : List Value} {cs : Array Value} {t : TypeId} (h : w.ownsRow B e size x n xs) (hg : w.heap[g]? = some (.cells cs t (0, 0))) (he : e ≠ t) (i : Nat) (v : Value) : (w.setCell ⟨g, i, none⟩ v).ownsRow B e size x n xs :=
  own_same h (fun q hq hx => heap_setCell_other _ _ _ _ (fun e2 => by
    obtain ⟨_, cc, hcc⟩ := own_block h hx
    rw [show q = g from e2, hg] at hcc
    simp only [Option.some.injEq, Obj.cells.injEq] at hcc
    exact he hcc.2.1.symm))
theorem RSl.cellT {w : World} {B g : Nat} {lv kv vv uv : Value} {l : List ByteArray} {t : Tab} {cs : Array Value} {ty : TypeId} (h : RSl w B lv kv vv uv l t) (hg : w.heap[g]? = some (.cells cs ty (0, 0))) (h9 : 9 ≠ ty) (h3 : 3 ≠ ty) (h4 : 4 ≠ ty) (i : Nat) (v : Value) : RSl (w.setCell ⟨g, i, none⟩ v) B lv kv vv uv l t :=
  ⟨own_cellT h.l hg h9 i v, own_cellT h.k hg h9 i v, own_cellT h.v hg h3 i v, own_cellT h.u hg h4 i v, h.ne⟩
theorem BufsAt.cellT {w : World} {B g : Nat} {nv bv : Value} {bs : List Buf} {cs : Array Value} {ty : TypeId} (h : BufsAt w B nv bv bs) (hg : w.heap[g]? = some (.cells cs ty (0, 0))) (h9 : 9 ≠ ty) (h3 : 3 ≠ ty) (h4 : 4 ≠ ty) (h5 : 105 ≠ ty) (i : Nat) (v : Value) : BufsAt (w.setCell ⟨g, i, none⟩ v) B nv bv bs := by
  obtain ⟨L, a1, a2, a3, a4⟩ := h
  refine ⟨L, a1, a2, own_cellT a3 hg h5 i v, fun k cs b hk hb => ?_⟩
  obtain ⟨lv, kv, vv, uv, e, hr⟩ := a4 k cs b hk hb
  exact ⟨lv, kv, vv, uv, e, hr.cellT hg h9 h3 h4 i v⟩
theorem RSl.away {w : World} {B p : Nat} {lv kv vv uv : Value} {l : List ByteArray} {t : Tab} {cs : Array Value} (h : RSl w B lv kv vv uv l t) (hg : w.heap[p]? = some (.cells cs 3 (0, 0))) {seed : Int} {d : Bool} (hf : ¬ RFoot (.agg (rcells lv seed kv vv uv d)) p) (i : Nat) (v : Value) : RSl (w.setCell ⟨p, i, none⟩ v) B lv kv vv uv l t :=
  ⟨own_cellT h.l hg (by decide) i v, own_cellT h.k hg (by decide) i v, own_away h.v (fun e => hf ⟨_, _, _, _, _, _, rfl, Or.inr (Or.inl e)⟩) i v, own_cellT h.u hg (by decide) i v, h.ne⟩
/-- the row of the names changed -/
theorem BufsAt.name {w : World} {B p : Nat} {n c : Nat} {bv : Value} {bs : List Buf} {cs : Array Value} (h : BufsAt w B (.slice (some ⟨p, 0, none⟩) n c) bv bs) (hg : w.heap[p]? = some (.cells cs 3 (0, 0))) (i : Nat) (v : Value) : BufsAt (w.setCell ⟨p, i, none⟩ v) B (.slice (some ⟨p, 0, none⟩) n c) bv bs := by
  obtain ⟨L, a1, a2, a3, a4⟩ := h
  refine ⟨L, a1, a2, own_cellT a3 hg (by decide) i v, fun k cs b hk hb => ?_⟩
  obtain ⟨lv, kv, vv, uv, e, hr⟩ := a4 k cs b hk hb
  cases e
  exact ⟨lv, kv, vv, uv, rfl, hr.away hg (a2 k _ hk p rfl) i v⟩
theorem own_rowT {w : World} {B e size n g : Nat} {x : Value} {xs : List Value} {cs : Array Value} {t : TypeId} (h : w.ownsRow B e size x n xs) (hg : w.heap[g]? = some (.cells cs t (0, 0))) (he : e ≠ t) (cs' : Array Value) : (w.setRow g cs').ownsRow B e size x n xs :=
  own_setRow h (fun hx => by
    obtain ⟨_, cc, hcc⟩ := own_block h hx
    rw [hg] at hcc
    simp only [Option.some.injEq, Obj.cells.injEq] at hcc
    exact he hcc.2.1.symm) cs'
theorem BufsAt.rowT {w : World} {B g : Nat} {nv bv : Value} {bs : List Buf} {cs : Array Value} {ty : TypeId} (h : BufsAt w B nv bv bs) (hg : w.heap[g]? = some (.cells cs ty (0, 0))) (h9 : 9 ≠ ty) (h3 : 3 ≠ ty) (h4 : 4 ≠ ty) (h5 : 105 ≠ ty) (cs' : Array Value) : BufsAt (w.setRow g cs') B nv bv bs := by
  obtain ⟨L, a1, a2, a3, a4⟩ := h
  refine ⟨L, a1, a2, own_rowT a3 hg h5 cs', fun k cs b hk hb => ?_⟩
  obtain ⟨lv, kv, vv, uv, e, hr⟩ := a4 k cs b hk hb
  exact ⟨lv, kv, vv, uv, e, own_rowT hr.l hg h9 cs', own_rowT hr.k hg h9 cs', own_rowT hr.v hg h3 cs', own_rowT hr.u hg h4 cs', hr.ne⟩
theorem sc66_one {w : World} {B e e2 size size2 n m : Nat} {nv bv : Value} {xs ys : List Value} (h1 : w.ownsRow B e size nv n xs) (h2 : w.ownsRow B e2 size2 bv m ys) (a b : Int) : (sc66 nv bv a b).all (·.oneCell') = true := by
  obtain ⟨A, c, rfl⟩ := own_shape h1
  obtain ⟨A2, c2, rfl⟩ := own_shape h2
  simp [sc66, Value.oneCell']
theorem BufsAt.own {w : World} {B : Nat} {nv bv : Value} {bs : List Buf} (h : BufsAt w B nv bv bs) : ∃ xs, w.ownsRow B 105 6 bv bs.length xs := by
  obtain ⟨L, a1, a2, a3, a4⟩ := h
  exact ⟨_, a3⟩
/-- the names' row of a store is none of a buffer's columns -/
def NApart (v rv : Value) : Prop := ∀ nv bv m s, v = .agg (sc66 nv bv m s) → ∀ q, nv.ownBlock = some q → ¬ RFoot rv q
set_option maxHeartbeats 4000000 in
set_option maxRecDepth 100000 in
theorem FreshI_any (v : Value) (A : Sto) (B : Nat) (hA8 : A.names.length = 8) (f : Nat) (hf : f < 8) (rv : Value) (b : Buf) (hm0 : 0 ≤ A.made) (hm : A.made ≤ 100000) (hbl : A.bufs.length ≤ 100000) (w : World) (hB : B ≤ w.heap.size) (h : DAt w B v A) (hr : RAt w B rv b) (hnv : NApart v rv) :
    Calls Try.prog 65 #[v, .int .i64 (f : Int), rv] w fun e w' => ∃ v', e = .returned v' ∧ DAt w' B v' (A.fresh (f : Int) b) ∧ Below B w w' := by
  obtain ⟨nv, bv, rfl, hn, hbs⟩ := h
  obtain ⟨p, c, rfl, hpB⟩ := own_p hn (by omega)
  obtain ⟨lv, kv, vv, uv, rfl, hrs⟩ := hr
  have HNV := Lib.hid (hnv _ _ _ _ rfl)
  have HN := Lib.hid hn
  have HBS := Lib.hid hbs
  have HRS := Lib.hid hrs
  have HZ8 := Lib.hid hA8
  obtain ⟨bn, hbn⟩ : ∃ bn, bn = A.bufs.length := ⟨_, rfl⟩
  have HBN := Lib.hid hbn
  rw [← hbn] at hbl
  obtain ⟨N1, hN1⟩ : ∃ N1, N1 = bn + 1 := ⟨_, rfl⟩
  have hfI : (f : Int) < 8 := by omega
  have hw1 : IntKind.i64.wrap ((N1 : Int) - 1) = (bn : Int) := by rw [wrap_small _ (by omega) (by omega)]; omega
  have hN1b : N1 ≤ 1000000 := by omega
  obtain ⟨M, hM⟩ : ∃ M, M = A.made := ⟨_, rfl⟩
  have HM := Lib.hid hM
  rw [← hM] at hm0 hm ⊢
  have hw2 : IntKind.i64.wrap (M + 1) = M + 1 := wrap_small _ (by omega) (by omega)
  have HN1 := Lib.hid hN1
  obtain ⟨sh, hsh⟩ : ∃ sh, sh = A.shared := ⟨_, rfl⟩
  have HSH := Lib.hid hsh
  rw [← hsh]
  clear hn hbs hrs hA8 hbn hN1 hM hsh hnv
  go_enter Try.func65, Try.ntmps65
  go_upto_region 1 with (fail)
  have hb0 := ((Below.refl w.heap.size w).alloc (Nat.le_refl _) (.cells (sc66 (.slice (some ⟨p, 0, none⟩) 8 c) bv M sh) 66)).alloc (by simp) (.cells (rcells lv b.seed kv vv uv (isD b)) 105)
  have hb1 := hb0.alloc (by simp; omega) (.cells (sc66 (.slice none 0 0) (.slice none 0 0) 0 0) 66)
  refine wp_world (fun W => Below w.heap.size w W ∧ W.heap[w.heap.size]? = some (.cells (sc66 (.slice (some ⟨p, 0, none⟩) 8 c) bv M sh) 66 (0, 0)) ∧ W.heap[w.heap.size + 1]? = some (.cells (rcells lv b.seed kv vv uv (isD b)) 105 (0, 0)) ∧ W.heap[w.heap.size + 2]? = some (.cells (sc66 (.slice none 0 0) (.slice none 0 0) 0 0) 66 (0, 0))) ⟨hb1, ha_old (ha_old (ha_new rfl)), ha_old (ha_new (by simp)), ha_new (by simp)⟩ ?_
  clear hb0 hb1
  rintro W ⟨hb, g1, g2, g3⟩
  have HNW := HN.out.lt p rfl
  replace HN := Lib.hid (own_below HN.out hb)
  replace HBS := Lib.hid (HBS.out.below hb)
  replace HRS := Lib.hid (HRS.out.below hb)
  replace hb := hb.mono hB
  obtain ⟨x0, x1, x2, x3⟩ := s66_cell g1
  apply wp_region_lit
  refine wl_k rfl (fun K hK => ?_); go_simp; refine hK _ ?_; clear hK K
  ((with_reducible apply wl_oneG); exact rfl; exact rfl; exact one64 x1)
  try simp only [Zq]
  ((with_reducible apply wl_rowG); exact rfl; exact rfl; exact rowR g2)
  try simp only [Zq]
  have hba := (Below.refl W.heap.size W).alloc (Nat.le_refl _) (.cells (rcells lv b.seed kv vv uv (isD b)) 105)
  obtain ⟨v', w', hr, hbs', hbel, hcells, hown⟩ := run_push64 (q := W.heap.size) 64 (HBS.out.below hba) (Nat.le_trans (Nat.le_trans hB hb.size) hba.size) (by rw [← HBN.out]; omega) (HRS.out.below hba) HNV.out (ha_new rfl)
  refine wl_w rfl (ex_bs64_1 _ rfl HRS.out rfl) ?_
  simp only [Zq]
  refine wl_w rfl (ex_app _ _ rfl rfl rfl hr) ?_
  simp only [Zq]
  have hn' := hown _ _ _ _ _ _ (own_below HN.out hba) (by decide)
  have g1' := hcells _ _ _ (by decide) (below_look hba g1)
  have g3' := hcells _ _ _ (by decide) (below_look hba g3)
  obtain ⟨ys, hys⟩ := hbs'.own
  obtain ⟨Av, cv, rfl⟩ := own_shape hys
  rw [show (A.bufs ++ [b]).length = N1 by rw [List.length_append, HN1.out, HBN.out]; rfl] at hys hbs' ⊢
  replace hb := (hb.trans (hba.mono (Nat.le_trans hB hb.size))).trans hbel
  have hov := own_one hys
  clear hba hr hbel hcells hown x0 x1 x2 x3 g1 g2 g3 HRS HBS
  refine wl_k rfl (fun K hK => ?_); go_simp; refine hK _ ?_; clear hK K
  refine wl_storeC rfl 64 _ _ rfl w.heap.size 1 (.slice Av N1 cv) rfl rfl (by kernel_rfl) hov (by rw [(s66_cell g1').2.1]; rfl) (frozen_of_row _ _ _ _ _ g1') ?_
  rw [put_noneA]
  have hp1 : p ≠ w.heap.size := by omega
  have HN2 := Lib.hid (own_cellT hn' g1' (by decide) 1 (.slice Av N1 cv))
  have HB2 := Lib.hid (hbs'.cellT g1' (by decide) (by decide) (by decide) (by decide) 1 (.slice Av N1 cv))
  have G1 : Hid ((w'.setCell ⟨w.heap.size, 1, none⟩ (.slice Av N1 cv)).heap[w.heap.size]? = some (.cells (sc66 (.slice (some ⟨p, 0, none⟩) 8 c) (.slice Av N1 cv) M sh) 66 (0, 0))) := Lib.hid ((hs_new g1').trans rfl)
  have G3 : Hid ((w'.setCell ⟨w.heap.size, 1, none⟩ (.slice Av N1 cv)).heap[w.heap.size + 2]? = _) := Lib.hid (hs_old g3' (show w.heap.size + 2 ≠ w.heap.size by omega))
  have HB := Lib.hid (hb.setCell (p := ⟨w.heap.size, 1, none⟩) hB (.slice Av N1 cv))
  clear hn' g1' g3' hys hbs' hb hov
  generalize w'.setCell ⟨w.heap.size, 1, none⟩ (.slice Av N1 cv) = w2 at *
  obtain ⟨x0, x1, x2, x3⟩ := s66_cell G1.out
  go_upto_region 2 with (fail)
  apply wp_region_lit
  refine wl_k rfl (fun K hK => ?_); go_simp; refine hK _ ?_; clear hK K
  ((with_reducible apply wl_oneG); exact rfl; exact rfl; exact one63 x0)
  try simp only [Zq]
  iterate 2 (refine wl_k rfl (fun K hK => ?_); go_simp; refine hK _ ?_; clear hK K)
  ((with_reducible apply wl_oneG); exact rfl; exact rfl; exact one64 x1)
  try simp only [Zq]
  iterate 2 (refine wl_k rfl (fun K hK => ?_); go_simp; refine hK _ ?_; clear hK K)
  try rw [hw1]
  refine wl_k rfl (fun K hK => ?_); go_simp; refine hK _ ?_; clear hK K
  refine wl_storeC rfl 3 _ _ rfl p f (.int .i64 (bn : Int)) rfl rfl (by kernel_rfl) rfl (own_th HN2.out hf) (HN2.out.frozenAt f) ?_
  rw [put_noneA]
  obtain ⟨_, pcs, hpcs⟩ := own_block HN2.out (q := p) rfl
  have HN3 : Hid ((w2.setCell ⟨p, f, none⟩ (.int .i64 (bn : Int))).ownsRow B 3 1 (.slice (some ⟨p, 0, none⟩) 8 c) 8 (ints ((A.fresh (f : Int) b).names.map numN))) := Lib.hid (by
    have h9 := own_setG HN2.out f (.int .i64 (bn : Int))
    rw [show (ints (A.names.map numN)).set f (.int .i64 (bn : Int)) = ints ((A.fresh (f : Int) b).names.map numN) by
      unfold Sto.fresh ints
      simp only [Int.toNat_natCast, List.map_set, numN]
      rw [HBN.out]] at h9
    exact h9)
  have HB3 := Lib.hid (HB2.out.name hpcs f (.int .i64 (bn : Int)))
  have G13 : Hid ((w2.setCell ⟨p, f, none⟩ (.int .i64 (bn : Int))).heap[w.heap.size]? = _) := Lib.hid (hs_old G1.out (show w.heap.size ≠ p by omega))
  have G33 : Hid ((w2.setCell ⟨p, f, none⟩ (.int .i64 (bn : Int))).heap[w.heap.size + 2]? = _) := Lib.hid (hs_old G3.out (show w.heap.size + 2 ≠ p by omega))
  have HB4 := Lib.hid (HB.out.setCell (p := ⟨p, f, none⟩) hpB (.int .i64 (bn : Int)))
  clear hpcs G1 G3 HN2 HB2 HB x0 x1 x2 x3 hw1
  generalize w2.setCell ⟨p, f, none⟩ (.int .i64 (bn : Int)) = w3 at *
  obtain ⟨x0, x1, x2, x3⟩ := s66_cell G13.out
  go_upto_region 3 with (fail)
  apply wp_region_lit
  refine wl_k rfl (fun K hK => ?_); go_simp; refine hK _ ?_; clear hK K
  ((with_reducible apply wl_oneG); exact rfl; exact rfl; exact one3 x2)
  try simp only [Zq]
  refine wl_k rfl (fun K hK => ?_); go_simp; refine hK _ ?_; clear hK K
  try rw [hw2]
  refine wl_k rfl (fun K hK => ?_); go_simp; refine hK _ ?_; clear hK K
  refine wl_storeC rfl 3 _ _ rfl w.heap.size 2 (.int .i64 (M + 1)) rfl rfl (by kernel_rfl) rfl (by rw [x2]; rfl) (frozen_of_row _ _ _ _ _ G13.out) ?_
  rw [put_noneA]
  have HN4 := Lib.hid (own_cellT HN3.out G13.out (by decide) 2 (.int .i64 (M + 1)))
  have HB5 := Lib.hid (HB3.out.cellT G13.out (by decide) (by decide) (by decide) (by decide) 2 (.int .i64 (M + 1)))
  have G14 : Hid ((w3.setCell ⟨w.heap.size, 2, none⟩ (.int .i64 (M + 1))).heap[w.heap.size]? = some (.cells (sc66 (.slice (some ⟨p, 0, none⟩) 8 c) (.slice Av N1 cv) (M + 1) sh) 66 (0, 0))) := Lib.hid ((hs_new G13.out).trans rfl)
  have G34 : Hid ((w3.setCell ⟨w.heap.size, 2, none⟩ (.int .i64 (M + 1))).heap[w.heap.size + 2]? = _) := Lib.hid (hs_old G33.out (show w.heap.size + 2 ≠ w.heap.size by omega))
  have HB6 := Lib.hid (HB4.out.setCell (p := ⟨w.heap.size, 2, none⟩) hB (.int .i64 (M + 1)))
  clear x0 x1 x2 x3 hw2 HN3 HB3 HB4 G13 G33
  generalize w3.setCell ⟨w.heap.size, 2, none⟩ (.int .i64 (M + 1)) = w4 at *
  go_upto_region 4 with (fail)
  apply wp_region_lit
  ((with_reducible apply wl_rowG); exact rfl; exact rfl; exact rowS G14.out)
  try simp only [Zq]
  obtain ⟨zs, hzs⟩ := HB5.out.own
  have hone := sc66_one HN4.out hzs (M + 1) sh
  rw [show (A.bufs ++ [b]).length = N1 by rw [List.length_append, HN1.out, HBN.out]; rfl] at hzs
  refine wl_putG (w.heap.size + 2) (sc66 (.slice (some ⟨p, 0, none⟩) 8 c) (.slice Av N1 cv) (M + 1) sh) rfl rfl 66 _ G34.out info66 rfl hone ?_
  rw [put_noneA]
  have HFIN := Lib.hid (hr_new (cs := sc66 (.slice (some ⟨p, 0, none⟩) 8 c) (.slice Av N1 cv) (M + 1) sh) G34.out)
  have HN6 := Lib.hid (own_rowT HN4.out G34.out (by decide) (sc66 (.slice (some ⟨p, 0, none⟩) 8 c) (.slice Av N1 cv) (M + 1) sh))
  have HB7 := Lib.hid (HB5.out.rowT G34.out (by decide) (by decide) (by decide) (by decide) (sc66 (.slice (some ⟨p, 0, none⟩) 8 c) (.slice Av N1 cv) (M + 1) sh))
  have HB8 := Lib.hid (below_setRow HB6.out (g := w.heap.size + 2) (by omega) (sc66 (.slice (some ⟨p, 0, none⟩) 8 c) (.slice Av N1 cv) (M + 1) sh))
  have HMM : Hid (M + 1 = (A.fresh (f : Int) b).made ∧ sh = (A.fresh (f : Int) b).shared) := Lib.hid (by
    have := HM.out; unfold Sto.made at this ⊢; unfold Sto.fresh; simp only [List.length_append, List.length_cons, List.length_nil]; exact ⟨by omega, HSH.out⟩)
  clear hzs hone HN4 HB5 HB6 G14 G34 HM HSH HN1 HBN
  go_wp2_with fail
  exact bodyPost_ret (res_66 rfl _ _ (w.heap.size + 2) rfl HFIN.out) rfl ⟨_, rfl, ⟨_, _, by rw [HMM.out.1, HMM.out.2], HN6.out, HB7.out⟩, HB8.out⟩
end Go.Proofs.Ytbhdgeoljlhmcaa
