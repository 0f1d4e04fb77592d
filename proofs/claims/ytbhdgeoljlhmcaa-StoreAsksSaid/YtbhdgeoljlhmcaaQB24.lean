/- What an operation does, by the document: refused, make, table, copy. What an operation does, by the document: slice, keys. The document's store: a buffer changed in its place; the change of a store, plain. What an operation does, by the document: a name's buffer changed. -/
import Derived.Outline
import Derived.Test.YtbhdgeoljlhmcaaQB23
import Derived.Test.YtbhdgeoljlhmcaaQB16
namespace Go.Proofs.Ytbhdgeoljlhmcaa
open Go.RowKit Go.Proofs.Ytbhdgeoljlhmcaa.Nm Go.Proofs.Ytbhdgeoljlhmcaa.St
set_option linter.unusedSimpArgs false
theorem res_66t {fn : Func} {p q : Tmp} (h : fn.results = #[.cell p 66, .tmp q]) (tmps : Array Value) (w : World) (g : Nat) (hp : tmps.getD p undef = .pointer (some ⟨g, 0, none⟩)) {nv bv : Value} {m s : Int} {x : Value}
    (hq : tmps.getD q undef = x) (hg : w.heap[g]? = some (.cells (sc66 nv bv m s) 66 (0, 0))) : (results fn tmps).run Try.prog w = .ok (.tuple #[.agg (sc66 nv bv m s), x]) w := by
  have hp' : tmps[p]?.getD undef = .pointer (some ⟨g, 0, none⟩) := by simpa using hp
  have hq' : tmps[q]?.getD undef = x := by simpa using hq
  have l1 : (loadVar 66 ⟨g, 0, none⟩).run Try.prog w = .ok (.agg (sc66 nv bv m s)) w := by have := rowS hg; unfold RowAt at this; exact this
  unfold results
  simp [h, hp', hq', asAddr, l1, Result.andThen]
/-- what the document's Do leaves -/
def DoIPost (v : Value) (A : Sto) (o : OpV) (w : World) (e : Ending) (w' : World) : Prop :=
  ∃ v', e = .returned (.tuple #[v', .int .i64 (refA A o)]) ∧ Below w.heap.size w w' ∧ (refA A o ≠ 0 ∧ v' = v ∨ refA A o = 0 ∧ DAt w' w.heap.size v' (doA A o))
theorem good_hG {A : Sto} (hA : Good A) : ∀ (k : Nat) (b : Buf), A.bufs[k]? = some b → b.t.length ≤ 100000 ∧ b.l.length ≤ 100000 := fun k b h => by
  have := (hA.bufs k b h).len
  omega
theorem built105e : Try.prog.built 105 [] = some noR := by kernel_rfl
theorem form_tof {o : OpV} (h : formS o = true) : ∃ f : Nat, o.to = (f : Int) ∧ f < 8 := by
  have h2 := form_to h
  exact ⟨o.to.toNat, by omega, by omega⟩
theorem form_frf {o : OpV} (h : formS o = true) : ∃ f : Nat, o.fr = (f : Int) ∧ f < 8 := by
  have h2 := form_fr h
  exact ⟨o.fr.toNat, by omega, by omega⟩
theorem made_le {A : Sto} (hA : Good A) (hm : A.bufs.length ≤ 10000) : A.made ≤ 100000 := by
  have := hA.off; unfold Sto.made; omega
def DC (g C n : Nat) : List Nat := g :: (List.range n).filter (fun k => decide (C ≤ k))
theorem mem_DC {g C n k : Nat} : k ∈ DC g C n ↔ k = g ∨ (k < n ∧ C ≤ k) := by simp [DC]
theorem Nm.Kept.belowC {g C : Nat} {W w w' : World} (h : Kept (DC g C W.heap.size) W w) (hb : Below C w w') : Kept (DC g C W.heap.size) W w' :=
  ⟨Nat.le_trans h.size hb.size, fun k hk hn => by
    rw [hb.block k (by have := mt mem_DC.2 hn; omega)]; exact h.block k hk hn, hb.os.trans h.os, hb.tape.trans h.tape, hb.output.trans h.output⟩
theorem napart_of {w W : World} {B B' n : Nat} {nv bv rv : Value} {b : Buf} {M sh : Int} {xs : List Value} (hr : RAt w B rv b) (hn : W.ownsRow B' 3 1 nv n xs) (hB : W.heap.size ≤ B) : NApart (.agg (sc66 nv bv M sh)) rv := fun nv' bv' m s e q hq hf => by
  cases e
  have := own_lt hn q hq
  have := (hr.foot hf).1
  omega
theorem rat_no (w : World) (B : Nat) : RAt w B (.agg noR) ⟨1, [], 0, []⟩ := ⟨_, _, _, _, rfl, own_nil _ _ _ _, own_nil _ _ _ _, own_nil _ _ _ _, own_nil _ _ _ _, fun q h => by cases h⟩
theorem napart_no (v : Value) : NApart v (.agg noR) := fun nv bv m s _ q _ hf => by
  obtain ⟨_, _, _, _, _, _, e, hq⟩ := hf
  cases e
  rcases hq with h | h | h <;> cases h
set_option maxHeartbeats 4000000 in
set_option maxRecDepth 100000 in
theorem DoI_err (v : Value) (A : Sto) (B : Nat) (hA : Good A) (o : OpV) (hr : refA A o ≠ 0) (w : World) (h : DAt w B v A) :
    Calls Try.prog 39 #[v, .agg o.cells] w (DoIPost v A o w) := by
  obtain ⟨nv, bv, hv, -⟩ := id h
  obtain ⟨M, hM⟩ : ∃ M, M = A.made := ⟨_, rfl⟩
  obtain ⟨sh, hsh⟩ : ∃ sh, sh = A.shared := ⟨_, rfl⟩
  rw [← hM, ← hsh] at hv
  subst hv
  have HA := Lib.hid hA
  have HMS := Lib.hid (And.intro hM hsh)
  have HD := Lib.hid h
  clear hA hM hsh h
  go_enter Try.func39, Try.ntmps39
  go_upto_region 1 with (fail)
  refine wp_world (fun W => Below w.heap.size w W ∧ W.heap[w.heap.size]? = some (.cells (sc66 nv bv M sh) 66 (0, 0)) ∧ W.heap[w.heap.size + 1]? = some (.cells o.cells 39 (0, 0)) ∧ W.heap[w.heap.size + 2]? = some (.cells (sc66 (.slice none 0 0) (.slice none 0 0) 0 0) 66 (0, 0))) ⟨(((Below.refl w.heap.size w).alloc (Nat.le_refl _) _).alloc (by simp) _).alloc (by simp; omega) _, ha_old (ha_old (ha_new rfl)), ha_old (ha_new (by simp)), ha_new (by simp)⟩ ?_
  rintro W ⟨hb, g1, g2, g3⟩
  apply wp_region_lit
  ((with_reducible apply wl_rowG); exact rfl; exact rfl; exact rowS g1)
  try simp only [Zq]
  ((with_reducible apply wl_rowG); exact rfl; exact rfl; exact rowOp g2)
  try simp only [Zq]
  replace HD := Lib.hid (HD.out.below hb)
  refine wl_ck rfl (fun K hK => ?_); go_simp; refine ⟨_, _, ⟨rfl, rfl⟩, hK _ _ ⟨_, checkI_any _ A B HA.out o _ HD.out, ?_⟩⟩; clear hK K; rintro e w1 ⟨rfl, hb1⟩; refine ⟨_, rfl, ?_⟩; simp only [Zq]
  replace g1 := below_look hb1 g1
  replace g2 := below_look hb1 g2
  replace g3 := below_look hb1 g3
  replace HD := Lib.hid (HD.out.below hb1)
  replace hb := hb.trans (hb1.mono hb.size)
  clear hb1
  refine wl_k rfl (fun K hK => ?_); go_simp; refine hK _ ?_; clear hK K
  generalize hR : refA A o = R at *
  have hR0 : (R != 0) = true := by simpa using hr
  go_upto_region 3 with (fail)
  apply wp_region_lit
  ((with_reducible apply wl_rowG); exact rfl; exact rfl; exact rowS g1)
  try simp only [Zq]
  refine wl_k rfl (fun K hK => ?_); go_simp; refine hK _ ?_; clear hK K
  obtain ⟨nv1, bv1, hv1, hn1, hbs1⟩ := HD.out
  obtain ⟨ys, hys⟩ := hbs1.own
  obtain ⟨rfl, rfl⟩ : nv = nv1 ∧ bv = bv1 := by cases hv1; exact ⟨rfl, rfl⟩
  refine wl_putG (w.heap.size + 2) (sc66 nv bv M sh) rfl rfl 66 _ g3 info66 rfl (sc66_one hn1 hys M sh) ?_
  rw [put_noneA]
  have HFIN := Lib.hid (hr_new (cs := sc66 nv bv M sh) g3)
  have HB := Lib.hid (below_setRow hb (g := w.heap.size + 2) (by omega) (sc66 nv bv M sh))
  go_wp2_with fail
  exact bodyPost_ret (res_66t rfl _ _ (w.heap.size + 2) rfl rfl HFIN.out) rfl ⟨_, by rw [hR]; rfl, HB.out, Or.inl ⟨by rw [hR]; exact hr, rfl⟩⟩
set_option maxHeartbeats 4000000 in
set_option maxRecDepth 100000 in
theorem DoI_make (v : Value) (A : Sto) (B : Nat) (hA : Good A) (hm : A.bufs.length ≤ 10000) (o : OpV) (hk : o.kind = 1) (hr : refA A o = 0) (w : World) (h : DAt w B v A) :
    Calls Try.prog 39 #[v, .agg o.cells] w (DoIPost v A o w) := by
  obtain ⟨f, hf, hf8⟩ := form_tof (ref_form hr)
  obtain ⟨nv, bv, hv, -⟩ := id h
  obtain ⟨M, hM⟩ : ∃ M, M = A.made := ⟨_, rfl⟩
  obtain ⟨sh, hsh⟩ : ∃ sh, sh = A.shared := ⟨_, rfl⟩
  rw [← hM, ← hsh] at hv
  subst hv
  have HA := Lib.hid hA
  have HMS := Lib.hid (And.intro hM hsh)
  have HD := Lib.hid h
  clear hA hM hsh h
  go_enter Try.func39, Try.ntmps39
  go_upto_region 1 with (fail)
  refine wp_world (fun W => Below w.heap.size w W ∧ W.heap[w.heap.size]? = some (.cells (sc66 nv bv M sh) 66 (0, 0)) ∧ W.heap[w.heap.size + 1]? = some (.cells o.cells 39 (0, 0)) ∧ W.heap[w.heap.size + 2]? = some (.cells (sc66 (.slice none 0 0) (.slice none 0 0) 0 0) 66 (0, 0))) ⟨(((Below.refl w.heap.size w).alloc (Nat.le_refl _) _).alloc (by simp) _).alloc (by simp; omega) _, ha_old (ha_old (ha_new rfl)), ha_old (ha_new (by simp)), ha_new (by simp)⟩ ?_
  rintro W ⟨hb, g1, g2, g3⟩
  apply wp_region_lit
  ((with_reducible apply wl_rowG); exact rfl; exact rfl; exact rowS g1)
  try simp only [Zq]
  ((with_reducible apply wl_rowG); exact rfl; exact rfl; exact rowOp g2)
  try simp only [Zq]
  replace HD := Lib.hid (HD.out.below hb)
  refine wl_ck rfl (fun K hK => ?_); go_simp; refine ⟨_, _, ⟨rfl, rfl⟩, hK _ _ ⟨_, checkI_any _ A B HA.out o _ HD.out, ?_⟩⟩; clear hK K; rintro e w1 ⟨rfl, hb1⟩; refine ⟨_, rfl, ?_⟩; simp only [Zq]
  replace g1 := below_look hb1 g1
  replace g2 := below_look hb1 g2
  replace g3 := below_look hb1 g3
  replace HD := Lib.hid (HD.out.below hb1)
  replace hb := hb.trans (hb1.mono hb.size)
  clear hb1
  refine wl_k rfl (fun K hK => ?_); go_simp; refine hK _ ?_; clear hK K
  try rw [hr]
  go_upto_region 4 with (fail)
  apply wp_region_lit
  ((with_reducible apply wl_rowG); exact rfl; exact rfl; exact rowS g1)
  try simp only [Zq]
  obtain ⟨C, hC⟩ : ∃ C, C = w1.heap.size := ⟨_, rfl⟩
  refine wl_ck rfl (fun K hK => ?_); go_simp; refine ⟨_, _, ⟨rfl, rfl⟩, hK _ _ ⟨_, CloneI_any _ A B (by omega) (good_hG HA.out) _ HD.out, ?_⟩⟩; clear hK K; rintro e w2 ⟨v1, rfl, hd1, hb1⟩; refine ⟨_, rfl, ?_⟩; simp only [Zq]
  rw [← hC] at hd1
  have lC := heap_lt g3
  rw [← hC] at lC
  have hC2 : C ≤ w2.heap.size := by rw [hC]; exact hb1.size
  replace g1 := below_look hb1 g1
  replace g2 := below_look hb1 g2
  replace g3 := below_look hb1 g3
  replace hb := hb.trans (hb1.mono hb.size)
  clear hb1 HD hC
  obtain ⟨nv1, bv1, hv1, hn1, hbs1⟩ := hd1
  rw [← HMS.out.1, ← HMS.out.2] at hv1
  subst hv1
  obtain ⟨ys, hys⟩ := hbs1.own
  have hone1 := sc66_one hn1 hys M sh
  refine wl_putG w.heap.size (sc66 nv1 bv1 M sh) rfl rfl 66 _ g1 info66 rfl hone1 ?_
  rw [put_noneA]
  have G1 := Lib.hid (hr_new (cs := sc66 nv1 bv1 M sh) g1)
  have G2 := Lib.hid (hr_old (g := w.heap.size) (cs := sc66 nv1 bv1 M sh) g2 (by omega))
  have G3 := Lib.hid (hr_old (g := w.heap.size) (cs := sc66 nv1 bv1 M sh) g3 (by omega))
  have HN := Lib.hid (own_rowT hn1 g1 (by decide) (sc66 nv1 bv1 M sh))
  have HBS := Lib.hid (hbs1.rowT g1 (by decide) (by decide) (by decide) (by decide) (sc66 nv1 bv1 M sh))
  have HB := Lib.hid (below_setRow hb (g := w.heap.size) (Nat.le_refl _) (sc66 nv1 bv1 M sh))
  have hC3 : C ≤ (w2.setRow w.heap.size (sc66 nv1 bv1 M sh)).heap.size := by simpa using hC2
  clear g1 g2 g3 hn1 hbs1 hb hys hC2 hone1 ys
  generalize w2.setRow w.heap.size (sc66 nv1 bv1 M sh) = w3 at *
  have x0 := (op_cell G2.out).1
  have x2 := (op_cell G2.out).2.2.1
  rw [hk] at x0
  rw [hf] at x2
  go_upto_region 7 with (fail)
  apply wp_region_lit
  ((with_reducible apply wl_rowG); exact rfl; exact rfl; exact rowS G1.out)
  try simp only [Zq]
  refine wl_k rfl (fun K hK => ?_); go_simp; refine hK _ ?_; clear hK K
  ((with_reducible apply wl_oneG); exact rfl; exact rfl; exact one3 x2)
  try simp only [Zq]
  refine wl_val rfl (ex_build 105 _ rfl (L := []) rfl built105e) ?_
  simp only [Zq]
  refine wl_ck rfl (fun K hK => ?_); go_simp; refine ⟨_, _, ⟨rfl, rfl⟩, hK _ _ ⟨_, FreshI_any _ A C HA.out.eight f hf8 (.agg noR) ⟨1, [], 0, []⟩ HA.out.off.1 (made_le HA.out hm) (by omega) _ hC3 ⟨nv1, bv1, by rw [HMS.out.1, HMS.out.2], HN.out, HBS.out⟩ (rat_no _ _) (napart_no _), ?_⟩⟩; clear hK K; rintro e w4 ⟨v2, rfl, hd2, hb4⟩; refine ⟨_, rfl, ?_⟩; simp only [Zq]
  clear x0 x2
  obtain ⟨nv2, bv2, hv2, hn2, hbs2⟩ := hd2
  obtain ⟨M2, hM2⟩ : ∃ M2, M2 = (A.fresh (f : Int) ⟨1, [], 0, []⟩).made := ⟨_, rfl⟩
  obtain ⟨sh2, hsh2⟩ : ∃ sh2, sh2 = (A.fresh (f : Int) ⟨1, [], 0, []⟩).shared := ⟨_, rfl⟩
  rw [← hM2, ← hsh2] at hv2
  subst hv2
  obtain ⟨ys, hys⟩ := hbs2.own
  have hone2 := sc66_one hn2 hys M2 sh2
  have g3 := (hb4.block _ (by omega)).trans G3.out
  have HBF := Lib.hid (below_setRow (HB.out.trans (hb4.mono (show w.heap.size ≤ C by omega))) (g := w.heap.size + 2) (by omega) (sc66 nv2 bv2 M2 sh2))
  have HD2 : Hid (DAt (w4.setRow (w.heap.size + 2) (sc66 nv2 bv2 M2 sh2)) w.heap.size (.agg (sc66 nv2 bv2 M2 sh2)) (A.fresh (f : Int) ⟨1, [], 0, []⟩)) := Lib.hid ⟨nv2, bv2, by rw [hM2, hsh2], own_weak (own_rowT hn2 g3 (by decide) _) (by omega), (hbs2.rowT g3 (by decide) (by decide) (by decide) (by decide) _).weak (by omega)⟩
  have HDO : Hid (doA A o = A.fresh (f : Int) ⟨1, [], 0, []⟩) := Lib.hid (by rw [doA_ok hr]; unfold Sto.does; rw [if_pos hk, hf])
  clear hn2 hbs2 hM2 hsh2 hys HB G1 G2 G3 HN HBS hb4
  refine wl_putG (w.heap.size + 2) (sc66 nv2 bv2 M2 sh2) rfl rfl 66 _ g3 info66 rfl (hone2) ?_
  rw [put_noneA]
  have HFIN := Lib.hid (hr_new (cs := sc66 nv2 bv2 M2 sh2) g3)
  clear g3 hone2
  go_wp2_with fail
  exact bodyPost_ret (res_66t rfl _ _ (w.heap.size + 2) rfl rfl HFIN.out) rfl ⟨_, by rw [hr]; rfl, HBF.out, Or.inr ⟨hr, by rw [HDO.out]; exact HD2.out⟩⟩
set_option maxHeartbeats 4000000 in
set_option maxRecDepth 100000 in
theorem DoI_table (v : Value) (A : Sto) (B : Nat) (hA : Good A) (hm : A.bufs.length ≤ 10000) (o : OpV) (hk : o.kind = 8) (hr : refA A o = 0) (w : World) (h : DAt w B v A) :
    Calls Try.prog 39 #[v, .agg o.cells] w (DoIPost v A o w) := by
  obtain ⟨f, hf, hf8⟩ := form_tof (ref_form hr)
  obtain ⟨nv, bv, hv, -⟩ := id h
  obtain ⟨M, hM⟩ : ∃ M, M = A.made := ⟨_, rfl⟩
  obtain ⟨sh, hsh⟩ : ∃ sh, sh = A.shared := ⟨_, rfl⟩
  rw [← hM, ← hsh] at hv
  subst hv
  have HA := Lib.hid hA
  have HMS := Lib.hid (And.intro hM hsh)
  have HD := Lib.hid h
  clear hA hM hsh h
  go_enter Try.func39, Try.ntmps39
  go_upto_region 1 with (fail)
  refine wp_world (fun W => Below w.heap.size w W ∧ W.heap[w.heap.size]? = some (.cells (sc66 nv bv M sh) 66 (0, 0)) ∧ W.heap[w.heap.size + 1]? = some (.cells o.cells 39 (0, 0)) ∧ W.heap[w.heap.size + 2]? = some (.cells (sc66 (.slice none 0 0) (.slice none 0 0) 0 0) 66 (0, 0))) ⟨(((Below.refl w.heap.size w).alloc (Nat.le_refl _) _).alloc (by simp) _).alloc (by simp; omega) _, ha_old (ha_old (ha_new rfl)), ha_old (ha_new (by simp)), ha_new (by simp)⟩ ?_
  rintro W ⟨hb, g1, g2, g3⟩
  apply wp_region_lit
  ((with_reducible apply wl_rowG); exact rfl; exact rfl; exact rowS g1)
  try simp only [Zq]
  ((with_reducible apply wl_rowG); exact rfl; exact rfl; exact rowOp g2)
  try simp only [Zq]
  replace HD := Lib.hid (HD.out.below hb)
  refine wl_ck rfl (fun K hK => ?_); go_simp; refine ⟨_, _, ⟨rfl, rfl⟩, hK _ _ ⟨_, checkI_any _ A B HA.out o _ HD.out, ?_⟩⟩; clear hK K; rintro e w1 ⟨rfl, hb1⟩; refine ⟨_, rfl, ?_⟩; simp only [Zq]
  replace g1 := below_look hb1 g1
  replace g2 := below_look hb1 g2
  replace g3 := below_look hb1 g3
  replace HD := Lib.hid (HD.out.below hb1)
  replace hb := hb.trans (hb1.mono hb.size)
  clear hb1
  refine wl_k rfl (fun K hK => ?_); go_simp; refine hK _ ?_; clear hK K
  try rw [hr]
  go_upto_region 4 with (fail)
  apply wp_region_lit
  ((with_reducible apply wl_rowG); exact rfl; exact rfl; exact rowS g1)
  try simp only [Zq]
  obtain ⟨C, hC⟩ : ∃ C, C = w1.heap.size := ⟨_, rfl⟩
  refine wl_ck rfl (fun K hK => ?_); go_simp; refine ⟨_, _, ⟨rfl, rfl⟩, hK _ _ ⟨_, CloneI_any _ A B (by omega) (good_hG HA.out) _ HD.out, ?_⟩⟩; clear hK K; rintro e w2 ⟨v1, rfl, hd1, hb1⟩; refine ⟨_, rfl, ?_⟩; simp only [Zq]
  rw [← hC] at hd1
  have lC := heap_lt g3
  rw [← hC] at lC
  have hC2 : C ≤ w2.heap.size := by rw [hC]; exact hb1.size
  replace g1 := below_look hb1 g1
  replace g2 := below_look hb1 g2
  replace g3 := below_look hb1 g3
  replace hb := hb.trans (hb1.mono hb.size)
  clear hb1 HD hC
  obtain ⟨nv1, bv1, hv1, hn1, hbs1⟩ := hd1
  rw [← HMS.out.1, ← HMS.out.2] at hv1
  subst hv1
  obtain ⟨ys, hys⟩ := hbs1.own
  have hone1 := sc66_one hn1 hys M sh
  refine wl_putG w.heap.size (sc66 nv1 bv1 M sh) rfl rfl 66 _ g1 info66 rfl hone1 ?_
  rw [put_noneA]
  have G1 := Lib.hid (hr_new (cs := sc66 nv1 bv1 M sh) g1)
  have G2 := Lib.hid (hr_old (g := w.heap.size) (cs := sc66 nv1 bv1 M sh) g2 (by omega))
  have G3 := Lib.hid (hr_old (g := w.heap.size) (cs := sc66 nv1 bv1 M sh) g3 (by omega))
  have HN := Lib.hid (own_rowT hn1 g1 (by decide) (sc66 nv1 bv1 M sh))
  have HBS := Lib.hid (hbs1.rowT g1 (by decide) (by decide) (by decide) (by decide) (sc66 nv1 bv1 M sh))
  have HB := Lib.hid (below_setRow hb (g := w.heap.size) (Nat.le_refl _) (sc66 nv1 bv1 M sh))
  have hC3 : C ≤ (w2.setRow w.heap.size (sc66 nv1 bv1 M sh)).heap.size := by simpa using hC2
  clear g1 g2 g3 hn1 hbs1 hb hys hC2 hone1 ys
  generalize w2.setRow w.heap.size (sc66 nv1 bv1 M sh) = w3 at *
  obtain ⟨x0, -, x2, -, x4, -⟩ := op_cell G2.out
  rw [hk] at x0
  rw [hf] at x2
  go_upto_region 9 with (fail)
  have hSS : Kept (DC (w.heap.size + 2) C w3.heap.size) w3 w3.drew := Kept.drew _ w3
  have hd0 : w.heap.size ∉ DC (w.heap.size + 2) C w3.heap.size := fun h => by have := mem_DC.1 h; omega
  have hd1 : w.heap.size + 1 ∉ DC (w.heap.size + 2) C w3.heap.size := fun h => by have := mem_DC.1 h; omega
  have hd2 : w.heap.size + 2 ∈ DC (w.heap.size + 2) C w3.heap.size := mem_DC.2 (Or.inl rfl)
  refine wp_region_held_drew (S := Kept (DC (w.heap.size + 2) C w3.heap.size) w3) mixed hSS (fun hS => ?_)
  clear hSS
  (refine hv3 (i := 0) rfl (by kernel_rfl) Zg hS rfl (fun w' hw' => ex_row rfl (rowS (hw'.look G1.out hd0))) ?_; try simp only [Zy])
  refine hk3 (i := 1) rfl (by kernel_rfl) Zh hS rfl (fun K hK => ?_); go_simp; refine hK _ ?_; clear hK K; try simp only [Zq]
  (refine hv3 (i := 2) rfl (by kernel_rfl) Zg hS rfl (fun w' hw' => ex_one rfl (one3 (hw'.cell x2 hd1))) ?_; try simp only [Zy])
  refine hk3 (i := 3) rfl (by kernel_rfl) Zh hS rfl (fun K hK => ?_); go_simp; refine hK _ ?_; clear hK K; try simp only [Zq]
  (refine hv3 (i := 4) rfl (by kernel_rfl) Zg hS rfl (fun w' hw' => ex_one rfl (one3 (hw'.cell x4 hd1))) ?_; try simp only [Zy])
  refine ha_call (i := 5) (by kernel_rfl) rfl rfl (fun K hK => ?_); go_simp; refine ⟨_, _, ⟨rfl, rfl⟩, hK _ _ ⟨_, tableI_any o.n 4 (by omega) _, ?_⟩⟩; clear hK K; rintro e w5 ⟨v5, rfl, hr5, hb1⟩; refine ⟨_, rfl, hS.below hb1, ?_⟩; replace hS := hS.below hb1; (have HN5 := Lib.hid (own_below (own_below HN.out (Below.refl _ w3).drew) hb1); have HBS5 := Lib.hid ((HBS.out.below (Below.refl _ w3).drew).below hb1); have HBB := Lib.hid (HB.out.drew.trans (hb1.mono HB.out.size)); have HG3 := Lib.hid (below_look hb1 (show w3.drew.heap[w.heap.size + 2]? = _ from G3.out)); have hC5 : C ≤ w5.heap.size := Nat.le_trans hC3 hb1.size; clear hb1); try simp only [Zq]
  have HNA := Lib.hid (napart_of (M := M) (sh := sh) (bv := bv1) hr5 HN.out (Nat.le_refl _))
  refine ha_call (i := 6) (by kernel_rfl) rfl rfl (fun K hK => ?_); go_simp; refine ⟨_, _, ⟨rfl, rfl⟩, hK _ _ ⟨_, FreshI_any _ A C HA.out.eight f hf8 v5 ⟨2, [], o.n, List.replicate 4 none⟩ HA.out.off.1 (made_le HA.out hm) (by omega) _ hC5 ⟨nv1, bv1, by rw [HMS.out.1, HMS.out.2], HN5.out, HBS5.out⟩ (hr5.weak hC3) HNA.out, ?_⟩⟩; clear hK K; rintro e w4 ⟨v2, rfl, hd2', hb4⟩
  replace hS := hS.belowC hb4
  refine ⟨_, rfl, hS, ?_⟩
  try simp only [Zy]
  obtain ⟨nv2, bv2, hv2, hn2, hbs2⟩ := hd2'
  obtain ⟨M2, hM2⟩ : ∃ M2, M2 = (A.fresh (f : Int) ⟨2, [], o.n, List.replicate 4 none⟩).made := ⟨_, rfl⟩
  obtain ⟨sh2, hsh2⟩ : ∃ sh2, sh2 = (A.fresh (f : Int) ⟨2, [], o.n, List.replicate 4 none⟩).shared := ⟨_, rfl⟩
  rw [← hM2, ← hsh2] at hv2
  subst hv2
  obtain ⟨ys, hys⟩ := hbs2.own
  have hone2 := sc66_one hn2 hys M2 sh2
  have g3 := (hb4.block _ (by omega)).trans HG3.out
  refine ha_store (i := 7) (by kernel_rfl) rfl rfl 66 _ _ rfl (w.heap.size + 2) (sc66 nv2 bv2 M2 sh2) rfl rfl 66 _ g3 info66 rfl hone2 (hS.setRow hd2 _) (fun hS => ?_); try simp only [Zy]
  refine hk3 (i := 8) rfl (by kernel_rfl) Zh hS rfl (fun K hK => ?_); go_simp; refine hK _ ?_; clear hK K; try simp only [Zq]
  refine wpAnyH_done (by kernel_rfl) ?_ _
  have HBF := Lib.hid (below_setRow (HBB.out.trans (hb4.mono (show w.heap.size ≤ C by omega))) (g := w.heap.size + 2) (by omega) (sc66 nv2 bv2 M2 sh2))
  have HD2 : Hid (DAt (w4.setRow (w.heap.size + 2) (sc66 nv2 bv2 M2 sh2)) w.heap.size (.agg (sc66 nv2 bv2 M2 sh2)) (A.fresh (f : Int) ⟨2, [], o.n, List.replicate 4 none⟩)) := Lib.hid ⟨nv2, bv2, by rw [hM2, hsh2], own_weak (own_rowT hn2 g3 (by decide) _) (by omega), (hbs2.rowT g3 (by decide) (by decide) (by decide) (by decide) _).weak (by omega)⟩
  have HDO : Hid (doA A o = A.fresh (f : Int) ⟨2, [], o.n, List.replicate 4 none⟩) := Lib.hid (by rw [doA_ok hr]; unfold Sto.does; simp [hk, hf])
  have HFIN := Lib.hid (hr_new (cs := sc66 nv2 bv2 M2 sh2) g3)
  clear hS hn2 hbs2 hM2 hsh2 hys HB HBB G1 G2 G3 HG3 HN HBS hb4 g3 hone2
  go_wp2_with fail
  exact bodyPost_ret (res_66t rfl _ _ (w.heap.size + 2) rfl rfl HFIN.out) rfl ⟨_, by rw [hr]; rfl, HBF.out, Or.inr ⟨hr, by rw [HDO.out]; exact HD2.out⟩⟩
set_option maxHeartbeats 4000000 in
set_option maxRecDepth 100000 in
theorem DoI_copy (v : Value) (A : Sto) (B : Nat) (hA : Good A) (hm : A.bufs.length ≤ 10000) (o : OpV) (hk : o.kind = 2) (hr : refA A o = 0) (w : World) (h : DAt w B v A) :
    Calls Try.prog 39 #[v, .agg o.cells] w (DoIPost v A o w) := by
  obtain ⟨f, hf, hf8⟩ := form_tof (ref_form hr)
  obtain ⟨g, hg, hg8⟩ := form_frf (ref_form hr)
  obtain ⟨nv, bv, hv, -⟩ := id h
  obtain ⟨M, hM⟩ : ∃ M, M = A.made := ⟨_, rfl⟩
  obtain ⟨sh, hsh⟩ : ∃ sh, sh = A.shared := ⟨_, rfl⟩
  rw [← hM, ← hsh] at hv
  subst hv
  have HA := Lib.hid hA
  have HMS := Lib.hid (And.intro hM hsh)
  have HD := Lib.hid h
  clear hA hM hsh h
  go_enter Try.func39, Try.ntmps39
  go_upto_region 1 with (fail)
  refine wp_world (fun W => Below w.heap.size w W ∧ W.heap[w.heap.size]? = some (.cells (sc66 nv bv M sh) 66 (0, 0)) ∧ W.heap[w.heap.size + 1]? = some (.cells o.cells 39 (0, 0)) ∧ W.heap[w.heap.size + 2]? = some (.cells (sc66 (.slice none 0 0) (.slice none 0 0) 0 0) 66 (0, 0))) ⟨(((Below.refl w.heap.size w).alloc (Nat.le_refl _) _).alloc (by simp) _).alloc (by simp; omega) _, ha_old (ha_old (ha_new rfl)), ha_old (ha_new (by simp)), ha_new (by simp)⟩ ?_
  rintro W ⟨hb, g1, g2, g3⟩
  apply wp_region_lit
  ((with_reducible apply wl_rowG); exact rfl; exact rfl; exact rowS g1)
  try simp only [Zq]
  ((with_reducible apply wl_rowG); exact rfl; exact rfl; exact rowOp g2)
  try simp only [Zq]
  replace HD := Lib.hid (HD.out.below hb)
  refine wl_ck rfl (fun K hK => ?_); go_simp; refine ⟨_, _, ⟨rfl, rfl⟩, hK _ _ ⟨_, checkI_any _ A B HA.out o _ HD.out, ?_⟩⟩; clear hK K; rintro e w1 ⟨rfl, hb1⟩; refine ⟨_, rfl, ?_⟩; simp only [Zq]
  replace g1 := below_look hb1 g1
  replace g2 := below_look hb1 g2
  replace g3 := below_look hb1 g3
  replace HD := Lib.hid (HD.out.below hb1)
  replace hb := hb.trans (hb1.mono hb.size)
  clear hb1
  refine wl_k rfl (fun K hK => ?_); go_simp; refine hK _ ?_; clear hK K
  try rw [hr]
  go_upto_region 4 with (fail)
  apply wp_region_lit
  ((with_reducible apply wl_rowG); exact rfl; exact rfl; exact rowS g1)
  try simp only [Zq]
  obtain ⟨C, hC⟩ : ∃ C, C = w1.heap.size := ⟨_, rfl⟩
  refine wl_ck rfl (fun K hK => ?_); go_simp; refine ⟨_, _, ⟨rfl, rfl⟩, hK _ _ ⟨_, CloneI_any _ A B (by omega) (good_hG HA.out) _ HD.out, ?_⟩⟩; clear hK K; rintro e w2 ⟨v1, rfl, hd1, hb1⟩; refine ⟨_, rfl, ?_⟩; simp only [Zq]
  rw [← hC] at hd1
  have lC := heap_lt g3
  rw [← hC] at lC
  have hC2 : C ≤ w2.heap.size := by rw [hC]; exact hb1.size
  replace g1 := below_look hb1 g1
  replace g2 := below_look hb1 g2
  replace g3 := below_look hb1 g3
  replace hb := hb.trans (hb1.mono hb.size)
  clear hb1 HD hC
  obtain ⟨nv1, bv1, hv1, hn1, hbs1⟩ := hd1
  rw [← HMS.out.1, ← HMS.out.2] at hv1
  subst hv1
  obtain ⟨ys, hys⟩ := hbs1.own
  have hone1 := sc66_one hn1 hys M sh
  refine wl_putG w.heap.size (sc66 nv1 bv1 M sh) rfl rfl 66 _ g1 info66 rfl hone1 ?_
  rw [put_noneA]
  have G1 := Lib.hid (hr_new (cs := sc66 nv1 bv1 M sh) g1)
  have G2 := Lib.hid (hr_old (g := w.heap.size) (cs := sc66 nv1 bv1 M sh) g2 (by omega))
  have G3 := Lib.hid (hr_old (g := w.heap.size) (cs := sc66 nv1 bv1 M sh) g3 (by omega))
  have HN := Lib.hid (own_rowT hn1 g1 (by decide) (sc66 nv1 bv1 M sh))
  have HBS := Lib.hid (hbs1.rowT g1 (by decide) (by decide) (by decide) (by decide) (sc66 nv1 bv1 M sh))
  have HB := Lib.hid (below_setRow hb (g := w.heap.size) (Nat.le_refl _) (sc66 nv1 bv1 M sh))
  have hC3 : C ≤ (w2.setRow w.heap.size (sc66 nv1 bv1 M sh)).heap.size := by simpa using hC2
  clear g1 g2 g3 hn1 hbs1 hb hys hC2 hone1 ys
  generalize w2.setRow w.heap.size (sc66 nv1 bv1 M sh) = w3 at *
  obtain ⟨p, c, rfl, hpC⟩ := own_p HN.out (by omega)
  obtain ⟨x0, x1, x2, -, -, -⟩ := op_cell G2.out
  rw [hk] at x0
  rw [hf] at x2
  rw [hg] at x1
  have hfI : (f : Int) < 8 := by omega
  have hgI : (g : Int) < 8 := by omega
  have hnm := own_name HN.out hg8 (id_names HA.out (n := (g : Int)) (by omega) hgI)
  have a0 := (s66_cell G1.out).1
  go_upto_region 11 with (fail)
  refine wp_region_held_drew (S := Kept [p] w3) mixed (Kept.drew [p] w3) (fun hS => ?_)
  have hd0 : w.heap.size ∉ [p] := by simp; omega
  have hd1 : w.heap.size + 1 ∉ [p] := by simp; omega
  refine hk3 (i := 0) rfl (by kernel_rfl) Zh hS rfl (fun K hK => ?_); go_simp; refine hK _ ?_; clear hK K; try simp only [Zq]
  (refine hv3 (i := 1) rfl (by kernel_rfl) Zg hS rfl (fun w' hw' => ex_one rfl (one63 (hw'.cell a0 hd0))) ?_; try simp only [Zy])
  refine hk3 (i := 2) rfl (by kernel_rfl) Zh hS rfl (fun K hK => ?_); go_simp; refine hK _ ?_; clear hK K; try simp only [Zq]
  (refine hv3 (i := 3) rfl (by kernel_rfl) Zg hS rfl (fun w' hw' => ex_one rfl (one3 (hw'.cell x2 hd1))) ?_; try simp only [Zy])
  refine hk3 (i := 4) rfl (by kernel_rfl) Zh hS rfl (fun K hK => ?_); go_simp; refine hK _ ?_; clear hK K; try simp only [Zq]
  (refine hv3 (i := 5) rfl (by kernel_rfl) Zg hS rfl (fun w' hw' => ex_one rfl (one63 (hw'.cell a0 hd0))) ?_; try simp only [Zy])
  refine hk3 (i := 6) rfl (by kernel_rfl) Zh hS rfl (fun K hK => ?_); go_simp; refine hK _ ?_; clear hK K; try simp only [Zq]
  (refine hv3 (i := 7) rfl (by kernel_rfl) Zg hS rfl (fun w' hw' => ex_one rfl (one3 (hw'.cell x1 hd1))) ?_; try simp only [Zy])
  refine hk3 (i := 8) rfl (by kernel_rfl) Zh hS rfl (fun K hK => ?_); go_simp; refine hK _ ?_; clear hK K; try simp only [Zq]
  have hnd : w3.drew.cell? ⟨p, g, none⟩ = _ := hnm
  refine ha_do (i := 9) (by kernel_rfl) rfl rfl (ex_one rfl (one3 hnd)) hS ?_; try simp only [Zy]
  refine hk3 (i := 10) rfl (by kernel_rfl) Zh hS rfl (fun K hK => ?_); go_simp; refine hK _ ?_; clear hK K; try simp only [Zq]
  have hnD := own_below HN.out (Below.refl _ w3).drew
  refine ha_storeC (i := 11) (by kernel_rfl) rfl rfl 3 _ _ rfl p f (.int .i64 (numN (A.id (g : Int)))) rfl rfl (by kernel_rfl) rfl (own_th hnD hf8) (hnD.frozenAt f) (hS.setCell (by simp) f _) (fun hS => ?_); try simp only [Zy]
  refine wpAnyH_done (by kernel_rfl) ?_ _
  rw [put_noneA]
  obtain ⟨_, pcs, hpcs⟩ := own_block hnD (q := p) rfl
  have HN4 : Hid ((w3.drew.setCell ⟨p, f, none⟩ (.int .i64 (numN (A.id (g : Int))))).ownsRow C 3 1 (.slice (some ⟨p, 0, none⟩) 8 c) 8 (ints ((A.names.set f (A.id (g : Int))).map numN))) := Lib.hid (by
    have h9 := own_setG hnD f (.int .i64 (numN (A.id (g : Int))))
    rw [show (ints (A.names.map numN)).set f (.int .i64 (numN (A.id (g : Int)))) = ints ((A.names.set f (A.id (g : Int))).map numN) by
      unfold ints; simp only [List.map_set]] at h9
    exact h9)
  have HB4 := Lib.hid ((HBS.out.below (Below.refl _ w3).drew).name hpcs f (.int .i64 (numN (A.id (g : Int)))))
  have g1 := hS.look G1.out hd0
  have g3 := hS.look G3.out (show w.heap.size + 2 ∉ [p] by simp; omega)
  have hb := HB.out.drew.setCell (p := ⟨p, f, none⟩) (show w.heap.size ≤ p by omega) (.int .i64 (numN (A.id (g : Int))))
  clear hS hpcs hnD hnd hnm a0 x0 x1 x2 G1 G2 G3 HN HBS HB
  generalize w3.drew.setCell ⟨p, f, none⟩ (.int .i64 (numN (A.id (g : Int)))) = w4 at *
  obtain ⟨ys, hys⟩ := HB4.out.own
  have hone2 := sc66_one HN4.out hys M sh
  have HBF := Lib.hid (below_setRow hb (g := w.heap.size + 2) (by omega) (sc66 (.slice (some ⟨p, 0, none⟩) 8 c) bv1 M sh))
  have HD2 : Hid (DAt (w4.setRow (w.heap.size + 2) (sc66 (.slice (some ⟨p, 0, none⟩) 8 c) bv1 M sh)) w.heap.size (.agg (sc66 (.slice (some ⟨p, 0, none⟩) 8 c) bv1 M sh)) { A with names := A.names.set f (A.id (g : Int)) }) := Lib.hid ⟨_, bv1, by rw [HMS.out.1, HMS.out.2]; rfl, own_weak (own_rowT HN4.out g3 (by decide) _) (by omega), (HB4.out.rowT g3 (by decide) (by decide) (by decide) (by decide) _).weak (by omega)⟩
  have HDO : Hid (doA A o = { A with names := A.names.set f (A.id (g : Int)) }) := Lib.hid (by rw [doA_ok hr]; unfold Sto.does; simp [hk, hf, hg])
  clear HN4 HB4 hb hys
  go_upto_region 12 with (fail)
  apply wp_region_lit
  ((with_reducible apply wl_rowG); exact rfl; exact rfl; exact rowS g1)
  try simp only [Zq]
  refine wl_putG (w.heap.size + 2) (sc66 (.slice (some ⟨p, 0, none⟩) 8 c) bv1 M sh) rfl rfl 66 _ g3 info66 rfl (hone2) ?_
  rw [put_noneA]
  have HFIN := Lib.hid (hr_new (cs := sc66 (.slice (some ⟨p, 0, none⟩) 8 c) bv1 M sh) g3)
  clear g1 g3 hone2
  go_wp2_with fail
  exact bodyPost_ret (res_66t rfl _ _ (w.heap.size + 2) rfl rfl HFIN.out) rfl ⟨_, by rw [hr]; rfl, HBF.out, Or.inr ⟨hr, by rw [HDO.out]; exact HD2.out⟩⟩
theorem built105l (A : Option Addr) (n c : Nat) : Try.prog.built 105 [(0, .slice A n c)] = some (rcells (.slice A n c) 0 (.slice none 0 0) (.slice none 0 0) (.slice none 0 0) false) := by kernel_rfl
theorem rat_l {w : World} {B n c : Nat} {A : Option Addr} {l : List ByteArray} (h : w.ownsRow B 9 1 (.slice A n c) n (strs l)) (hl : l.length = n) : RAt w B (.agg (rcells (.slice A n c) 0 (.slice none 0 0) (.slice none 0 0) (.slice none 0 0) false)) ⟨1, l, 0, []⟩ :=
  ⟨_, _, _, _, rfl, by rw [hl]; exact h, own_nil _ _ _ _, own_nil _ _ _ _, own_nil _ _ _ _, fun q _ h => by cases h⟩
theorem napart_l (v : Value) {lv : Value} {seed : Int} {d : Bool} : NApart v (.agg (rcells lv seed (.slice none 0 0) (.slice none 0 0) (.slice none 0 0) d)) := fun nv bv m s _ q _ hf => by
  obtain ⟨_, _, _, _, _, _, e, hq⟩ := hf
  cases e
  rcases hq with h | h | h <;> cases h
theorem ref_slice {A : Sto} {o : OpV} (h : refA A o = 0) (hk : o.kind = 6) : 0 ≤ o.at_ ∧ 0 ≤ o.n ∧ o.at_ ≤ ((A.buf o.fr).l.length : Int) ∧ o.n ≤ ((A.buf o.fr).l.length : Int) - o.at_ := by
  unfold refA at h
  repeat' split at h
  all_goals first | (exfalso; omega) | skip
  all_goals simp_all
  all_goals omega
set_option maxHeartbeats 4000000 in
set_option maxRecDepth 100000 in
theorem DoI_keys (v : Value) (A : Sto) (B : Nat) (hA : Good A) (hm : A.bufs.length ≤ 10000) (o : OpV) (hk : o.kind = 11) (hr : refA A o = 0) (w : World) (h : DAt w B v A) :
    Calls Try.prog 39 #[v, .agg o.cells] w (DoIPost v A o w) := by
  obtain ⟨f, hf, hf8⟩ := form_tof (ref_form hr)
  obtain ⟨g, hg, hg8⟩ := form_frf (ref_form hr)
  have hku : (useG o.kind).kind ≠ 0 := by rw [hk]; decide
  obtain ⟨nv, bv, hv, -⟩ := id h
  obtain ⟨M, hM⟩ : ∃ M, M = A.made := ⟨_, rfl⟩
  obtain ⟨sh, hsh⟩ : ∃ sh, sh = A.shared := ⟨_, rfl⟩
  rw [← hM, ← hsh] at hv
  subst hv
  have HA := Lib.hid hA
  have HMS := Lib.hid (And.intro hM hsh)
  have HD := Lib.hid h
  clear hA hM hsh h
  go_enter Try.func39, Try.ntmps39
  go_upto_region 1 with (fail)
  refine wp_world (fun W => Below w.heap.size w W ∧ W.heap[w.heap.size]? = some (.cells (sc66 nv bv M sh) 66 (0, 0)) ∧ W.heap[w.heap.size + 1]? = some (.cells o.cells 39 (0, 0)) ∧ W.heap[w.heap.size + 2]? = some (.cells (sc66 (.slice none 0 0) (.slice none 0 0) 0 0) 66 (0, 0))) ⟨(((Below.refl w.heap.size w).alloc (Nat.le_refl _) _).alloc (by simp) _).alloc (by simp; omega) _, ha_old (ha_old (ha_new rfl)), ha_old (ha_new (by simp)), ha_new (by simp)⟩ ?_
  rintro W ⟨hb, g1, g2, g3⟩
  apply wp_region_lit
  ((with_reducible apply wl_rowG); exact rfl; exact rfl; exact rowS g1)
  try simp only [Zq]
  ((with_reducible apply wl_rowG); exact rfl; exact rfl; exact rowOp g2)
  try simp only [Zq]
  replace HD := Lib.hid (HD.out.below hb)
  refine wl_ck rfl (fun K hK => ?_); go_simp; refine ⟨_, _, ⟨rfl, rfl⟩, hK _ _ ⟨_, checkI_any _ A B HA.out o _ HD.out, ?_⟩⟩; clear hK K; rintro e w1 ⟨rfl, hb1⟩; refine ⟨_, rfl, ?_⟩; simp only [Zq]
  replace g1 := below_look hb1 g1
  replace g2 := below_look hb1 g2
  replace g3 := below_look hb1 g3
  replace HD := Lib.hid (HD.out.below hb1)
  replace hb := hb.trans (hb1.mono hb.size)
  clear hb1
  refine wl_k rfl (fun K hK => ?_); go_simp; refine hK _ ?_; clear hK K
  try rw [hr]
  go_upto_region 4 with (fail)
  apply wp_region_lit
  ((with_reducible apply wl_rowG); exact rfl; exact rfl; exact rowS g1)
  try simp only [Zq]
  obtain ⟨C, hC⟩ : ∃ C, C = w1.heap.size := ⟨_, rfl⟩
  refine wl_ck rfl (fun K hK => ?_); go_simp; refine ⟨_, _, ⟨rfl, rfl⟩, hK _ _ ⟨_, CloneI_any _ A B (by omega) (good_hG HA.out) _ HD.out, ?_⟩⟩; clear hK K; rintro e w2 ⟨v1, rfl, hd1, hb1⟩; refine ⟨_, rfl, ?_⟩; simp only [Zq]
  rw [← hC] at hd1
  have lC := heap_lt g3
  rw [← hC] at lC
  have hC2 : C ≤ w2.heap.size := by rw [hC]; exact hb1.size
  replace g1 := below_look hb1 g1
  replace g2 := below_look hb1 g2
  replace g3 := below_look hb1 g3
  replace hb := hb.trans (hb1.mono hb.size)
  clear hb1 HD hC
  obtain ⟨nv1, bv1, hv1, hn1, hbs1⟩ := hd1
  rw [← HMS.out.1, ← HMS.out.2] at hv1
  subst hv1
  obtain ⟨ys, hys⟩ := hbs1.own
  have hone1 := sc66_one hn1 hys M sh
  refine wl_putG w.heap.size (sc66 nv1 bv1 M sh) rfl rfl 66 _ g1 info66 rfl hone1 ?_
  rw [put_noneA]
  have G1 := Lib.hid (hr_new (cs := sc66 nv1 bv1 M sh) g1)
  have G2 := Lib.hid (hr_old (g := w.heap.size) (cs := sc66 nv1 bv1 M sh) g2 (by omega))
  have G3 := Lib.hid (hr_old (g := w.heap.size) (cs := sc66 nv1 bv1 M sh) g3 (by omega))
  have HN := Lib.hid (own_rowT hn1 g1 (by decide) (sc66 nv1 bv1 M sh))
  have HBS := Lib.hid (hbs1.rowT g1 (by decide) (by decide) (by decide) (by decide) (sc66 nv1 bv1 M sh))
  have HB := Lib.hid (below_setRow hb (g := w.heap.size) (Nat.le_refl _) (sc66 nv1 bv1 M sh))
  have hC3 : C ≤ (w2.setRow w.heap.size (sc66 nv1 bv1 M sh)).heap.size := by simpa using hC2
  clear g1 g2 g3 hn1 hbs1 hb hys hC2 hone1 ys
  generalize w2.setRow w.heap.size (sc66 nv1 bv1 M sh) = w3 at *
  have hgI : (g : Int) < 8 := by omega
  have hkd := ref_kd hr hku
  have hk1 : (A.buf o.fr).kd ≠ 0 := by rw [hkd]; exact hku
  obtain ⟨i, hid⟩ := id_of_kd hk1
  rw [hg] at hid
  have hil := HA.out.there g i (by have := id_names HA.out (n := (g : Int)) (by omega) hgI; rwa [hid] at this)
  obtain ⟨b, hbi⟩ : ∃ b, A.bufs[i]? = some b := ⟨_, List.getElem?_eq_getElem hil⟩
  have HBU : Hid (A.buf o.fr = b) := Lib.hid (by rw [hg]; exact buf_of hid hbi)
  have HGB := Lib.hid (HA.out.bufs i b hbi)
  have HID := Lib.hid hid
  have HBI := Lib.hid hbi
  obtain ⟨p, c, rfl, hpC⟩ := own_p HN.out (by omega)
  have hnm := own_name HN.out hg8 (id_names HA.out (n := (g : Int)) (by omega) hgI)
  rw [hid, show numN (some i) = (i : Int) from rfl] at hnm
  obtain ⟨q, cap, cur, rfl, hqC, hcur, hall⟩ := HBS.out.cells (by omega)
  obtain ⟨lv, kv, vv, uv, hx, -, hRS, hNA⟩ := hall i b hbi
  have HX := Lib.hid hx
  have HRS := Lib.hid hRS
  obtain ⟨n2, hn2⟩ : ∃ n2, n2 = A.bufs.length := ⟨_, rfl⟩
  have HN2 := Lib.hid hn2
  rw [← hn2] at hil HBS G1
  have hilI : (i : Int) < (n2 : Int) := by omega
  obtain ⟨x0, x1, -, -, -, -⟩ := op_cell G2.out
  try rw [hk] at x0
  rw [hg] at x1
  obtain ⟨a0, a1, -, -⟩ := s66_cell G1.out
  clear hall hx hRS hbi hid hn2 hkd hk1 hNA
  try rw [← HN2.out]
  go_upto_region 13 with (fail)
  refine wp_region_held_drew (S := Kept [] w3) mixed (Kept.drew [] w3) (fun hS => ?_)
  refine hk3 (i := 0) rfl (by kernel_rfl) Zh hS rfl (fun K hK => ?_); go_simp; refine hK _ ?_; clear hK K; try simp only [Zq]
  refine hv3 (i := 1) rfl (by kernel_rfl) Zg hS rfl (fun w' hw' => ex_one rfl (one64 (hw'.cell a1 (by simp <;> omega)))) ?_; try simp only [Zq]
  refine hk3 (i := 2) rfl (by kernel_rfl) Zh hS rfl (fun K hK => ?_); go_simp; refine hK _ ?_; clear hK K; try simp only [Zq]
  refine hv3 (i := 3) rfl (by kernel_rfl) Zg hS rfl (fun w' hw' => ex_one rfl (one63 (hw'.cell a0 (by simp <;> omega)))) ?_; try simp only [Zq]
  refine hk3 (i := 4) rfl (by kernel_rfl) Zh hS rfl (fun K hK => ?_); go_simp; refine hK _ ?_; clear hK K; try simp only [Zq]
  refine hv3 (i := 5) rfl (by kernel_rfl) Zg hS rfl (fun w' hw' => ex_one rfl (one3 (hw'.cell x1 (by simp <;> omega)))) ?_; try simp only [Zq]
  refine hk3 (i := 6) rfl (by kernel_rfl) Zh hS rfl (fun K hK => ?_); go_simp; refine hK _ ?_; clear hK K; try simp only [Zq]
  refine hv3 (i := 7) rfl (by kernel_rfl) Zg hS rfl (fun w' hw' => ex_one rfl (one3 (hw'.cell hnm (by simp <;> omega)))) ?_; try simp only [Zq]
  refine hk3 (i := 8) rfl (by kernel_rfl) Zh hS rfl (fun K hK => ?_); go_simp; refine hK _ ?_; clear hK K; try simp only [Zq]
  (refine hv3 (i := 9) rfl (by kernel_rfl) Zg hS rfl (fun w' hw' => ex_row rfl ((fun h => row_mid h HX.out u105 rfl rfl info105) (hw'.look hcur (by simp)))) ?_; try simp only [Zy])
  have hb1 := (Below.refl w3.drew.heap.size w3.drew).alloc (Nat.le_refl _) (.cells noR 105)
  have hSn := hS.below hb1
  have hal : (w3.drew.alloc (.cells noR 105)).heap[w3.drew.heap.size]? = some (.cells noR 105 (0, 0)) := ha_new rfl
  have hp7 : w3.heap.size ≤ w3.drew.heap.size := hS.size
  refine ha_do (i := 10) (by kernel_rfl) rfl rfl (ex_alloc105 rfl _ _) hSn ?_; try simp only [Zy]
  replace hS := hSn
  clear hSn hb1
  generalize w3.drew.alloc (.cells noR 105) = w4 at *
  generalize w3.drew.heap.size = p7 at hal hp7 ⊢
  refine ha_store (i := 11) (by kernel_rfl) rfl rfl 105 _ _ rfl p7 (rcells lv b.seed kv vv uv (isD b)) rfl rfl 105 _ hal info105 rfl (HRS.out.one b.seed (isD b)) (hS.setNew hp7 _) (fun hS => ?_); try simp only [Zy]
  refine wpAnyH_done (by kernel_rfl) ?_ _
  rw [put_noneA]
  have hbw := hS.toBelow (Nat.le_refl _) (by simp)
  have hp7C : C ≤ p7 := Nat.le_trans hC3 hp7
  have HB7 := Lib.hid (hr_new (cs := rcells lv b.seed kv vv uv (isD b)) hal)
  replace G1 := Lib.hid (below_look hbw G1.out)
  replace G2 := Lib.hid (below_look hbw G2.out)
  replace G3 := Lib.hid (below_look hbw G3.out)
  replace HN := Lib.hid (own_below HN.out hbw)
  replace HBS := Lib.hid (HBS.out.below hbw)
  replace HRS := Lib.hid (HRS.out.below hbw)
  replace HB := Lib.hid (HB.out.trans (hbw.mono HB.out.size))
  replace hC3 : C ≤ (w4.setRow p7 (rcells lv b.seed kv vv uv (isD b))).heap.size := Nat.le_trans hC3 hbw.size
  clear hS hal hbw hp7 x0 x1 a0 a1 hnm hcur HX hilI hil
  generalize w4.setRow p7 (rcells lv b.seed kv vv uv (isD b)) = w3 at *
  obtain ⟨x0, -, x2, -, -, -⟩ := op_cell G2.out
  rw [hk] at x0
  rw [hf] at x2
  have hG1 := G1.out
  have hRA : Hid (RAt w3 0 (.agg (rcells lv b.seed kv vv uv (isD b))) b) := Lib.hid ⟨_, _, _, _, rfl, HRS.out.weak (Nat.zero_le _)⟩
  go_upto_region 17 with (fail)
  have hSS : Kept (DC (w.heap.size + 2) C w3.heap.size) w3 w3.drew := Kept.drew _ w3
  have hd0 : w.heap.size ∉ DC (w.heap.size + 2) C w3.heap.size := fun h => by have := mem_DC.1 h; omega
  have hd1 : w.heap.size + 1 ∉ DC (w.heap.size + 2) C w3.heap.size := fun h => by have := mem_DC.1 h; omega
  have hd2 : w.heap.size + 2 ∈ DC (w.heap.size + 2) C w3.heap.size := mem_DC.2 (Or.inl rfl)
  refine wp_region_held_drew (S := Kept (DC (w.heap.size + 2) C w3.heap.size) w3) mixed hSS (fun hS => ?_)
  clear hSS
  (refine hv3 (i := 0) rfl (by kernel_rfl) Zg hS rfl (fun w' hw' => ex_row rfl (rowS (hw'.look hG1 hd0))) ?_; try simp only [Zy])
  refine hk3 (i := 1) rfl (by kernel_rfl) Zh hS rfl (fun K hK => ?_); go_simp; refine hK _ ?_; clear hK K; try simp only [Zq]
  (refine hv3 (i := 2) rfl (by kernel_rfl) Zg hS rfl (fun w' hw' => ex_one rfl (one3 (hw'.cell x2 hd1))) ?_; try simp only [Zy])
  have hB7 : w3.drew.heap[p7]? = _ := HB7.out
  refine ha_do (i := 3) (by kernel_rfl) rfl rfl (ex_row rfl (rowR hB7)) hS ?_; try simp only [Zy]
  refine ha_call (i := 4) (by kernel_rfl) rfl rfl (fun K hK => ?_); go_simp; refine ⟨_, _, ⟨rfl, rfl⟩, hK _ _ ⟨_, orderI_any _ b 0 (by have := HGB.out.len; omega) _ (hRA.out.below (Below.refl _ w3).drew), ?_⟩⟩; clear hK K; rintro e w5 ⟨v5, rfl, ho5, hb1⟩; refine ⟨_, rfl, hS.below hb1, ?_⟩; replace hS := hS.below hb1; (rw [List.length_map] at ho5; obtain ⟨A5, c5, rfl⟩ := own_shape ho5); try simp only [Zq]
  replace HN := Lib.hid (own_below (own_below HN.out (Below.refl _ w3).drew) hb1)
  replace HBS := Lib.hid ((HBS.out.below (Below.refl _ w3).drew).below hb1)
  have HBB := Lib.hid (HB.out.drew.trans (hb1.mono HB.out.size))
  have HG3 := Lib.hid (below_look hb1 (show w3.drew.heap[w.heap.size + 2]? = _ from G3.out))
  have hC5 : C ≤ w5.heap.size := Nat.le_trans hC3 hb1.size
  clear hb1
  (refine hv3 (i := 5) rfl (by kernel_rfl) Zg hS rfl (fun w' hw' => ex_build 105 _ rfl (L := [(0, .slice A5 (pairsT b.t).length c5)]) rfl (built105l _ _ _)) ?_; try simp only [Zy])
  refine ha_call (i := 6) (by kernel_rfl) rfl rfl (fun K hK => ?_); go_simp; refine ⟨_, _, ⟨rfl, rfl⟩, hK _ _ ⟨_, FreshI_any _ A C HA.out.eight f hf8 _ ⟨1, (pairsT b.t).map (·.1), 0, []⟩ HA.out.off.1 (made_le HA.out hm) (by omega) _ hC5 ⟨_, _, by rw [HMS.out.1, HMS.out.2], HN.out, HBS.out⟩ (rat_l (own_weak ho5 hC3) (List.length_map _)) (napart_l _), ?_⟩⟩; clear hK K; rintro e w4 ⟨v2, rfl, hd2', hb4⟩
  replace hS := hS.belowC hb4
  refine ⟨_, rfl, hS, ?_⟩
  try simp only [Zy]
  obtain ⟨nv2, bv2, hv2, hn2, hbs2⟩ := hd2'
  obtain ⟨M2, hM2⟩ : ∃ M2, M2 = (A.fresh (f : Int) ⟨1, (pairsT b.t).map (·.1), 0, []⟩).made := ⟨_, rfl⟩
  obtain ⟨sh2, hsh2⟩ : ∃ sh2, sh2 = (A.fresh (f : Int) ⟨1, (pairsT b.t).map (·.1), 0, []⟩).shared := ⟨_, rfl⟩
  rw [← hM2, ← hsh2] at hv2
  subst hv2
  obtain ⟨ys, hys⟩ := hbs2.own
  have hone2 := sc66_one hn2 hys M2 sh2
  have g3 := (hb4.block _ (by omega)).trans HG3.out
  refine ha_store (i := 7) (by kernel_rfl) rfl rfl 66 _ _ rfl (w.heap.size + 2) (sc66 nv2 bv2 M2 sh2) rfl rfl 66 _ g3 info66 rfl hone2 (hS.setRow hd2 _) (fun hS => ?_); try simp only [Zy]
  refine hk3 (i := 8) rfl (by kernel_rfl) Zh hS rfl (fun K hK => ?_); go_simp; refine hK _ ?_; clear hK K; try simp only [Zq]
  refine wpAnyH_done (by kernel_rfl) ?_ _
  have HBF := Lib.hid (below_setRow (HBB.out.trans (hb4.mono (show w.heap.size ≤ C by omega))) (g := w.heap.size + 2) (by omega) (sc66 nv2 bv2 M2 sh2))
  have HD2 : Hid (DAt (w4.setRow (w.heap.size + 2) (sc66 nv2 bv2 M2 sh2)) w.heap.size (.agg (sc66 nv2 bv2 M2 sh2)) (A.fresh (f : Int) ⟨1, (pairsT b.t).map (·.1), 0, []⟩)) := Lib.hid ⟨nv2, bv2, by rw [hM2, hsh2], own_weak (own_rowT hn2 g3 (by decide) _) (by omega), (hbs2.rowT g3 (by decide) (by decide) (by decide) (by decide) _).weak (by omega)⟩
  have HDO : Hid (doA A o = A.fresh (f : Int) ⟨1, (pairsT b.t).map (·.1), 0, []⟩) := Lib.hid (by rw [doA_ok hr]; unfold Sto.does; simp [hk, hf, HBU.out])
  have HFIN := Lib.hid (hr_new (cs := sc66 nv2 bv2 M2 sh2) g3)
  clear hS hn2 hbs2 hM2 hsh2 hys HB HBB G1 G2 G3 HG3 HN HBS hb4 g3 hone2
  go_wp2_with fail
  exact bodyPost_ret (res_66t rfl _ _ (w.heap.size + 2) rfl rfl HFIN.out) rfl ⟨_, by rw [hr]; rfl, HBF.out, Or.inr ⟨hr, by rw [HDO.out]; exact HD2.out⟩⟩
set_option maxHeartbeats 4000000 in
set_option maxRecDepth 100000 in
theorem DoI_slice (v : Value) (A : Sto) (B : Nat) (hA : Good A) (hm : A.bufs.length ≤ 10000) (o : OpV) (hk : o.kind = 6) (hr : refA A o = 0) (w : World) (h : DAt w B v A) :
    Calls Try.prog 39 #[v, .agg o.cells] w (DoIPost v A o w) := by
  obtain ⟨f, hf, hf8⟩ := form_tof (ref_form hr)
  obtain ⟨g, hg, hg8⟩ := form_frf (ref_form hr)
  have hku : (useG o.kind).kind ≠ 0 := by rw [hk]; decide
  obtain ⟨nv, bv, hv, -⟩ := id h
  obtain ⟨M, hM⟩ : ∃ M, M = A.made := ⟨_, rfl⟩
  obtain ⟨sh, hsh⟩ : ∃ sh, sh = A.shared := ⟨_, rfl⟩
  rw [← hM, ← hsh] at hv
  subst hv
  have HA := Lib.hid hA
  have HMS := Lib.hid (And.intro hM hsh)
  have HD := Lib.hid h
  clear hA hM hsh h
  go_enter Try.func39, Try.ntmps39
  go_upto_region 1 with (fail)
  refine wp_world (fun W => Below w.heap.size w W ∧ W.heap[w.heap.size]? = some (.cells (sc66 nv bv M sh) 66 (0, 0)) ∧ W.heap[w.heap.size + 1]? = some (.cells o.cells 39 (0, 0)) ∧ W.heap[w.heap.size + 2]? = some (.cells (sc66 (.slice none 0 0) (.slice none 0 0) 0 0) 66 (0, 0))) ⟨(((Below.refl w.heap.size w).alloc (Nat.le_refl _) _).alloc (by simp) _).alloc (by simp; omega) _, ha_old (ha_old (ha_new rfl)), ha_old (ha_new (by simp)), ha_new (by simp)⟩ ?_
  rintro W ⟨hb, g1, g2, g3⟩
  apply wp_region_lit
  ((with_reducible apply wl_rowG); exact rfl; exact rfl; exact rowS g1)
  try simp only [Zq]
  ((with_reducible apply wl_rowG); exact rfl; exact rfl; exact rowOp g2)
  try simp only [Zq]
  replace HD := Lib.hid (HD.out.below hb)
  refine wl_ck rfl (fun K hK => ?_); go_simp; refine ⟨_, _, ⟨rfl, rfl⟩, hK _ _ ⟨_, checkI_any _ A B HA.out o _ HD.out, ?_⟩⟩; clear hK K; rintro e w1 ⟨rfl, hb1⟩; refine ⟨_, rfl, ?_⟩; simp only [Zq]
  replace g1 := below_look hb1 g1
  replace g2 := below_look hb1 g2
  replace g3 := below_look hb1 g3
  replace HD := Lib.hid (HD.out.below hb1)
  replace hb := hb.trans (hb1.mono hb.size)
  clear hb1
  refine wl_k rfl (fun K hK => ?_); go_simp; refine hK _ ?_; clear hK K
  try rw [hr]
  go_upto_region 4 with (fail)
  apply wp_region_lit
  ((with_reducible apply wl_rowG); exact rfl; exact rfl; exact rowS g1)
  try simp only [Zq]
  obtain ⟨C, hC⟩ : ∃ C, C = w1.heap.size := ⟨_, rfl⟩
  refine wl_ck rfl (fun K hK => ?_); go_simp; refine ⟨_, _, ⟨rfl, rfl⟩, hK _ _ ⟨_, CloneI_any _ A B (by omega) (good_hG HA.out) _ HD.out, ?_⟩⟩; clear hK K; rintro e w2 ⟨v1, rfl, hd1, hb1⟩; refine ⟨_, rfl, ?_⟩; simp only [Zq]
  rw [← hC] at hd1
  have lC := heap_lt g3
  rw [← hC] at lC
  have hC2 : C ≤ w2.heap.size := by rw [hC]; exact hb1.size
  replace g1 := below_look hb1 g1
  replace g2 := below_look hb1 g2
  replace g3 := below_look hb1 g3
  replace hb := hb.trans (hb1.mono hb.size)
  clear hb1 HD hC
  obtain ⟨nv1, bv1, hv1, hn1, hbs1⟩ := hd1
  rw [← HMS.out.1, ← HMS.out.2] at hv1
  subst hv1
  obtain ⟨ys, hys⟩ := hbs1.own
  have hone1 := sc66_one hn1 hys M sh
  refine wl_putG w.heap.size (sc66 nv1 bv1 M sh) rfl rfl 66 _ g1 info66 rfl hone1 ?_
  rw [put_noneA]
  have G1 := Lib.hid (hr_new (cs := sc66 nv1 bv1 M sh) g1)
  have G2 := Lib.hid (hr_old (g := w.heap.size) (cs := sc66 nv1 bv1 M sh) g2 (by omega))
  have G3 := Lib.hid (hr_old (g := w.heap.size) (cs := sc66 nv1 bv1 M sh) g3 (by omega))
  have HN := Lib.hid (own_rowT hn1 g1 (by decide) (sc66 nv1 bv1 M sh))
  have HBS := Lib.hid (hbs1.rowT g1 (by decide) (by decide) (by decide) (by decide) (sc66 nv1 bv1 M sh))
  have HB := Lib.hid (below_setRow hb (g := w.heap.size) (Nat.le_refl _) (sc66 nv1 bv1 M sh))
  have hC3 : C ≤ (w2.setRow w.heap.size (sc66 nv1 bv1 M sh)).heap.size := by simpa using hC2
  clear g1 g2 g3 hn1 hbs1 hb hys hC2 hone1 ys
  generalize w2.setRow w.heap.size (sc66 nv1 bv1 M sh) = w3 at *
  have hgI : (g : Int) < 8 := by omega
  have hkd := ref_kd hr hku
  have hk1 : (A.buf o.fr).kd ≠ 0 := by rw [hkd]; exact hku
  obtain ⟨i, hid⟩ := id_of_kd hk1
  rw [hg] at hid
  have hil := HA.out.there g i (by have := id_names HA.out (n := (g : Int)) (by omega) hgI; rwa [hid] at this)
  obtain ⟨b, hbi⟩ : ∃ b, A.bufs[i]? = some b := ⟨_, List.getElem?_eq_getElem hil⟩
  have HBU : Hid (A.buf o.fr = b) := Lib.hid (by rw [hg]; exact buf_of hid hbi)
  have HGB := Lib.hid (HA.out.bufs i b hbi)
  have HID := Lib.hid hid
  have HBI := Lib.hid hbi
  obtain ⟨p, c, rfl, hpC⟩ := own_p HN.out (by omega)
  have hnm := own_name HN.out hg8 (id_names HA.out (n := (g : Int)) (by omega) hgI)
  rw [hid, show numN (some i) = (i : Int) from rfl] at hnm
  obtain ⟨q, cap, cur, rfl, hqC, hcur, hall⟩ := HBS.out.cells (by omega)
  obtain ⟨lv, kv, vv, uv, hx, -, hRS, hNA⟩ := hall i b hbi
  have HX := Lib.hid hx
  have HRS := Lib.hid hRS
  obtain ⟨n2, hn2⟩ : ∃ n2, n2 = A.bufs.length := ⟨_, rfl⟩
  have HN2 := Lib.hid hn2
  rw [← hn2] at hil HBS G1
  have hilI : (i : Int) < (n2 : Int) := by omega
  obtain ⟨x0, x1, -, -, -, -⟩ := op_cell G2.out
  try rw [hk] at x0
  rw [hg] at x1
  obtain ⟨a0, a1, -, -⟩ := s66_cell G1.out
  clear hall hx hRS hbi hid hn2 hkd hk1 hNA
  try rw [← HN2.out]
  go_upto_region 13 with (fail)
  refine wp_region_held_drew (S := Kept [] w3) mixed (Kept.drew [] w3) (fun hS => ?_)
  refine hk3 (i := 0) rfl (by kernel_rfl) Zh hS rfl (fun K hK => ?_); go_simp; refine hK _ ?_; clear hK K; try simp only [Zq]
  refine hv3 (i := 1) rfl (by kernel_rfl) Zg hS rfl (fun w' hw' => ex_one rfl (one64 (hw'.cell a1 (by simp <;> omega)))) ?_; try simp only [Zq]
  refine hk3 (i := 2) rfl (by kernel_rfl) Zh hS rfl (fun K hK => ?_); go_simp; refine hK _ ?_; clear hK K; try simp only [Zq]
  refine hv3 (i := 3) rfl (by kernel_rfl) Zg hS rfl (fun w' hw' => ex_one rfl (one63 (hw'.cell a0 (by simp <;> omega)))) ?_; try simp only [Zq]
  refine hk3 (i := 4) rfl (by kernel_rfl) Zh hS rfl (fun K hK => ?_); go_simp; refine hK _ ?_; clear hK K; try simp only [Zq]
  refine hv3 (i := 5) rfl (by kernel_rfl) Zg hS rfl (fun w' hw' => ex_one rfl (one3 (hw'.cell x1 (by simp <;> omega)))) ?_; try simp only [Zq]
  refine hk3 (i := 6) rfl (by kernel_rfl) Zh hS rfl (fun K hK => ?_); go_simp; refine hK _ ?_; clear hK K; try simp only [Zq]
  refine hv3 (i := 7) rfl (by kernel_rfl) Zg hS rfl (fun w' hw' => ex_one rfl (one3 (hw'.cell hnm (by simp <;> omega)))) ?_; try simp only [Zq]
  refine hk3 (i := 8) rfl (by kernel_rfl) Zh hS rfl (fun K hK => ?_); go_simp; refine hK _ ?_; clear hK K; try simp only [Zq]
  (refine hv3 (i := 9) rfl (by kernel_rfl) Zg hS rfl (fun w' hw' => ex_row rfl ((fun h => row_mid h HX.out u105 rfl rfl info105) (hw'.look hcur (by simp)))) ?_; try simp only [Zy])
  have hb1 := (Below.refl w3.drew.heap.size w3.drew).alloc (Nat.le_refl _) (.cells noR 105)
  have hSn := hS.below hb1
  have hal : (w3.drew.alloc (.cells noR 105)).heap[w3.drew.heap.size]? = some (.cells noR 105 (0, 0)) := ha_new rfl
  have hp7 : w3.heap.size ≤ w3.drew.heap.size := hS.size
  refine ha_do (i := 10) (by kernel_rfl) rfl rfl (ex_alloc105 rfl _ _) hSn ?_; try simp only [Zy]
  replace hS := hSn
  clear hSn hb1
  generalize w3.drew.alloc (.cells noR 105) = w4 at *
  generalize w3.drew.heap.size = p7 at hal hp7 ⊢
  refine ha_store (i := 11) (by kernel_rfl) rfl rfl 105 _ _ rfl p7 (rcells lv b.seed kv vv uv (isD b)) rfl rfl 105 _ hal info105 rfl (HRS.out.one b.seed (isD b)) (hS.setNew hp7 _) (fun hS => ?_); try simp only [Zy]
  refine wpAnyH_done (by kernel_rfl) ?_ _
  rw [put_noneA]
  have hbw := hS.toBelow (Nat.le_refl _) (by simp)
  have hp7C : C ≤ p7 := Nat.le_trans hC3 hp7
  have HB7 := Lib.hid (hr_new (cs := rcells lv b.seed kv vv uv (isD b)) hal)
  replace G1 := Lib.hid (below_look hbw G1.out)
  replace G2 := Lib.hid (below_look hbw G2.out)
  replace G3 := Lib.hid (below_look hbw G3.out)
  replace HN := Lib.hid (own_below HN.out hbw)
  replace HBS := Lib.hid (HBS.out.below hbw)
  replace HRS := Lib.hid (HRS.out.below hbw)
  replace HB := Lib.hid (HB.out.trans (hbw.mono HB.out.size))
  replace hC3 : C ≤ (w4.setRow p7 (rcells lv b.seed kv vv uv (isD b))).heap.size := Nat.le_trans hC3 hbw.size
  clear hS hal hbw hp7 x0 x1 a0 a1 hnm hcur HX hilI hil
  generalize w4.setRow p7 (rcells lv b.seed kv vv uv (isD b)) = w3 at *
  obtain ⟨x0, -, x2, x3, x4, -⟩ := op_cell G2.out
  have hrS := ref_slice hr hk
  rw [HBU.out] at hrS
  have hlb := HGB.out.len.1
  obtain ⟨at_, hat⟩ : ∃ n : Nat, o.at_ = (n : Int) := ⟨o.at_.toNat, by omega⟩
  obtain ⟨m, hmm⟩ : ∃ n : Nat, o.n = (n : Int) := ⟨o.n.toNat, by omega⟩
  rw [hk] at x0
  rw [hf] at x2
  rw [hat] at x3
  rw [hmm] at x4
  rw [hat, hmm] at hrS
  have hsum : at_ + m ≤ b.l.length := by omega
  have hwa : IntKind.i64.wrap ((at_ : Int) + (m : Int)) = ((at_ + m : Nat) : Int) := by rw [wrap_small _ (by omega) (by omega)]; omega
  clear hrS
  have hG1 := G1.out
  obtain ⟨A1, c1, rfl, hc1, hs1⟩ := own_str2 HRS.out.l rfl
  obtain ⟨A6, e6, hs6⟩ := hs1.cut (show at_ ≤ at_ + m by omega) hsum hc1
  rw [show at_ + m - at_ = m by omega] at e6 hs6
  have hB7 : w3.drew.cell? ⟨p7, 0, none⟩ = _ := (rc_cell HB7.out).1
  go_upto_region 15 with (fail)
  have hSS : Kept (DC (w.heap.size + 2) C w3.heap.size) w3 w3.drew := Kept.drew _ w3
  have hd0 : w.heap.size ∉ DC (w.heap.size + 2) C w3.heap.size := fun h => by have := mem_DC.1 h; omega
  have hd1 : w.heap.size + 1 ∉ DC (w.heap.size + 2) C w3.heap.size := fun h => by have := mem_DC.1 h; omega
  have hd2 : w.heap.size + 2 ∈ DC (w.heap.size + 2) C w3.heap.size := mem_DC.2 (Or.inl rfl)
  refine wp_region_held_drew (S := Kept (DC (w.heap.size + 2) C w3.heap.size) w3) mixed hSS (fun hS => ?_)
  clear hSS
  (refine hv3 (i := 0) rfl (by kernel_rfl) Zg hS rfl (fun w' hw' => ex_row rfl (rowS (hw'.look hG1 hd0))) ?_; try simp only [Zy])
  refine hk3 (i := 1) rfl (by kernel_rfl) Zh hS rfl (fun K hK => ?_); go_simp; refine hK _ ?_; clear hK K; try simp only [Zq]
  (refine hv3 (i := 2) rfl (by kernel_rfl) Zg hS rfl (fun w' hw' => ex_one rfl (one3 (hw'.cell x2 hd1))) ?_; try simp only [Zy])
  refine hk3 (i := 3) rfl (by kernel_rfl) Zh hS rfl (fun K hK => ?_); go_simp; refine hK _ ?_; clear hK K; try simp only [Zq]
  refine hk3 (i := 5) rfl (by kernel_rfl) Zh hS rfl (fun K hK => ?_); go_simp; refine hK _ ?_; clear hK K; try simp only [Zq]
  (refine hv3 (i := 6) rfl (by kernel_rfl) Zg hS rfl (fun w' hw' => ex_one rfl (one3 (hw'.cell x3 hd1))) ?_; try simp only [Zy])
  refine hk3 (i := 7) rfl (by kernel_rfl) Zh hS rfl (fun K hK => ?_); go_simp; refine hK _ ?_; clear hK K; try simp only [Zq]
  (refine hv3 (i := 8) rfl (by kernel_rfl) Zg hS rfl (fun w' hw' => ex_one rfl (one3 (hw'.cell x3 hd1))) ?_; try simp only [Zy])
  refine hk3 (i := 9) rfl (by kernel_rfl) Zh hS rfl (fun K hK => ?_); go_simp; refine hK _ ?_; clear hK K; try simp only [Zq]
  (refine hv3 (i := 10) rfl (by kernel_rfl) Zg hS rfl (fun w' hw' => ex_one rfl (one3 (hw'.cell x4 hd1))) ?_; try simp only [Zy])
  refine hk3 (i := 11) rfl (by kernel_rfl) Zh hS rfl (fun K hK => ?_); go_simp; refine hK _ ?_; clear hK K; try simp only [Zq]
  try rw [hwa]
  refine ha_do (i := 4) (by kernel_rfl) rfl rfl (ex_one rfl (one29 hB7)) hS ?_; try simp only [Zy]
  refine ha_do (i := 12) (by kernel_rfl) rfl rfl (ex_slLH _ _ _ rfl rfl rfl rfl (by omega) (by omega)) hS ?_; try simp only [Zy]
  rw [e6]
  refine ha_call (i := 13) (by kernel_rfl) rfl rfl (fun K hK => ?_); go_simp; refine ⟨_, _, ⟨rfl, rfl⟩, hK _ _ ⟨_, CopyStrings_any A6 m _ _ (by omega) _ (hs6.below (Below.refl _ w3).drew), ?_⟩⟩; clear hK K; rintro e w5 ⟨v5, rfl, ho5, hb1⟩; refine ⟨_, rfl, hS.below hb1, ?_⟩; replace hS := hS.below hb1; (obtain ⟨A5, c5, rfl⟩ := own_shape ho5); try simp only [Zq]
  replace HN := Lib.hid (own_below (own_below HN.out (Below.refl _ w3).drew) hb1)
  replace HBS := Lib.hid ((HBS.out.below (Below.refl _ w3).drew).below hb1)
  have HBB := Lib.hid (HB.out.drew.trans (hb1.mono HB.out.size))
  have HG3 := Lib.hid (below_look hb1 (show w3.drew.heap[w.heap.size + 2]? = _ from G3.out))
  have hC5 : C ≤ w5.heap.size := Nat.le_trans hC3 hb1.size
  clear hb1
  (refine hv3 (i := 14) rfl (by kernel_rfl) Zg hS rfl (fun w' hw' => ex_build 105 _ rfl (L := [(0, .slice A5 m c5)]) rfl (built105l _ _ _)) ?_; try simp only [Zy])
  refine ha_call (i := 15) (by kernel_rfl) rfl rfl (fun K hK => ?_); go_simp; refine ⟨_, _, ⟨rfl, rfl⟩, hK _ _ ⟨_, FreshI_any _ A C HA.out.eight f hf8 _ ⟨1, (b.l.take (at_ + m)).drop at_, 0, []⟩ HA.out.off.1 (made_le HA.out hm) (by omega) _ hC5 ⟨_, _, by rw [HMS.out.1, HMS.out.2], HN.out, HBS.out⟩ (rat_l (own_weak ho5 hC3) hs6.1) (napart_l _), ?_⟩⟩; clear hK K; rintro e w4 ⟨v2, rfl, hd2', hb4⟩
  replace hS := hS.belowC hb4
  refine ⟨_, rfl, hS, ?_⟩
  try simp only [Zy]
  obtain ⟨nv2, bv2, hv2, hn2, hbs2⟩ := hd2'
  obtain ⟨M2, hM2⟩ : ∃ M2, M2 = (A.fresh (f : Int) ⟨1, (b.l.take (at_ + m)).drop at_, 0, []⟩).made := ⟨_, rfl⟩
  obtain ⟨sh2, hsh2⟩ : ∃ sh2, sh2 = (A.fresh (f : Int) ⟨1, (b.l.take (at_ + m)).drop at_, 0, []⟩).shared := ⟨_, rfl⟩
  rw [← hM2, ← hsh2] at hv2
  subst hv2
  obtain ⟨ys, hys⟩ := hbs2.own
  have hone2 := sc66_one hn2 hys M2 sh2
  have g3 := (hb4.block _ (by omega)).trans HG3.out
  refine ha_store (i := 16) (by kernel_rfl) rfl rfl 66 _ _ rfl (w.heap.size + 2) (sc66 nv2 bv2 M2 sh2) rfl rfl 66 _ g3 info66 rfl hone2 (hS.setRow hd2 _) (fun hS => ?_); try simp only [Zy]
  refine hk3 (i := 17) rfl (by kernel_rfl) Zh hS rfl (fun K hK => ?_); go_simp; refine hK _ ?_; clear hK K; try simp only [Zq]
  refine wpAnyH_done (by kernel_rfl) ?_ _
  have HBF := Lib.hid (below_setRow (HBB.out.trans (hb4.mono (show w.heap.size ≤ C by omega))) (g := w.heap.size + 2) (by omega) (sc66 nv2 bv2 M2 sh2))
  have HD2 : Hid (DAt (w4.setRow (w.heap.size + 2) (sc66 nv2 bv2 M2 sh2)) w.heap.size (.agg (sc66 nv2 bv2 M2 sh2)) (A.fresh (f : Int) ⟨1, (b.l.take (at_ + m)).drop at_, 0, []⟩)) := Lib.hid ⟨nv2, bv2, by rw [hM2, hsh2], own_weak (own_rowT hn2 g3 (by decide) _) (by omega), (hbs2.rowT g3 (by decide) (by decide) (by decide) (by decide) _).weak (by omega)⟩
  have HDO : Hid (doA A o = A.fresh (f : Int) ⟨1, (b.l.take (at_ + m)).drop at_, 0, []⟩) := Lib.hid (by rw [doA_ok hr]; unfold Sto.does; simp [hk, hf, HBU.out, hat, hmm, List.drop_take])
  have HFIN := Lib.hid (hr_new (cs := sc66 nv2 bv2 M2 sh2) g3)
  clear hS hn2 hbs2 hM2 hsh2 hys HB HBB G1 G2 G3 HG3 HN HBS hb4 g3 hone2
  go_wp2_with fail
  exact bodyPost_ret (res_66t rfl _ _ (w.heap.size + 2) rfl rfl HFIN.out) rfl ⟨_, by rw [hr]; rfl, HBF.out, Or.inr ⟨hr, by rw [HDO.out]; exact HD2.out⟩⟩
theorem flat_set (a b c d e f : Value) : ∀ (L : List (Array Value)) (k : Nat), (∀ x ∈ L, x.size = 6) → k < L.length →
    (L.set k #[a, b, c, d, e, f]).flatMap Array.toList = ((((((L.flatMap Array.toList).set (k * 6) a).set (k * 6 + 1) b).set (k * 6 + 1 + 1) c).set (k * 6 + 1 + 1 + 1) d).set (k * 6 + 1 + 1 + 1 + 1) e).set (k * 6 + 1 + 1 + 1 + 1 + 1) f
  | [], k, _, h => by simp at h
  | x :: L, 0, hz, _ => by
    have hx := hz x (by simp)
    obtain ⟨l⟩ := x
    simp only [List.size_toArray] at hx
    match l, hx with
    | [x0, x1, x2, x3, x4, x5], _ => simp
  | x :: L, k + 1, hz, h => by
    have hx := hz x (by simp)
    have ih := flat_set a b c d e f L k (fun y hy => hz y (by simp [hy])) (by simpa using h)
    obtain ⟨l⟩ := x
    simp only [List.size_toArray] at hx
    match l, hx with
    | [x0, x1, x2, x3, x4, x5], _ =>
      simp only [List.set_cons_succ, List.flatMap_cons, ih]
      simp [show (k + 1) * 6 = k * 6 + 6 by omega]
theorem own_there6 {w : World} {B p cap n e size : Nat} {xs : List Value} (h : w.ownsRow B e size (.slice (some ⟨p, 0, none⟩) n cap) n xs) {k : Nat} (hk : k < n) : w.there p (k * size) size := by
  rcases h.2 with ⟨h0, _⟩ | ⟨p0, cap0, cur, hv, hB, hg, h1, h2, h3, h4⟩
  · cases h0
  · cases hv
    intro j hj
    have : k * size + j < n * size := by
      have : (k + 1) * size ≤ n * size := Nat.mul_le_mul_right _ hk
      rw [Nat.add_mul] at this; omega
    have h5 : n * size ≤ cap * size := Nat.mul_le_mul_right _ h1
    rw [cell_of_row _ _ _ _ _ _ hg, frozen_of_row _ _ _ _ _ hg, Array.getElem?_eq_getElem (by omega)]
    exact ⟨rfl, rfl⟩
/-- a buffer's row changed in its place -/
theorem BufsAt.put {w : World} {B q c i : Nat} {nv : Value} {bs : List Buf} {b : Buf} {lv kv vv uv : Value} (h : BufsAt w B nv (.slice (some ⟨q, 0, none⟩) bs.length c) bs) (hi : i < bs.length) (hr : RSl w B lv kv vv uv b.l b.t)
    (hna : ∀ x, nv.ownBlock = some x → ¬ RFoot (.agg (rcells lv b.seed kv vv uv (isD b))) x) : BufsAt (w.setCells q (i * 6) (rcells lv b.seed kv vv uv (isD b)).toList) B nv (.slice (some ⟨q, 0, none⟩) bs.length c) (bs.set i b) := by
  obtain ⟨L, h1, h2, h3, h4⟩ := h
  have hsix := BufsAt.six h1 h4
  have hK : Kept [q] w (w.setCells q (i * 6) (rcells lv b.seed kv vv uv (isD b)).toList) := Nm.Kept.setCells (by simp) _ _ _ (Nm.Kept.refl _ _)
  have hoth : ∀ {e : TypeId} {size n : Nat} {x : Value} {xs : List Value}, w.ownsRow B e size x n xs → e ≠ 105 → (w.setCells q (i * 6) (rcells lv b.seed kv vv uv (isD b)).toList).ownsRow B e size x n xs := fun h he => own_same h (fun x hx hx2 => hK.block x hx (fun hm => by
    obtain ⟨_, d1, hd1⟩ := own_block h hx2
    obtain ⟨_, d2, hd2⟩ := own_block h3 (q := q) rfl
    simp at hm; subst hm
    rw [hd1] at hd2; simp only [Option.some.injEq, Obj.cells.injEq] at hd2; exact he hd2.2.1))
  have hR2 : ∀ {lv' kv' vv' uv' : Value} {l : List ByteArray} {t : Tab}, RSl w B lv' kv' vv' uv' l t → RSl (w.setCells q (i * 6) (rcells lv b.seed kv vv uv (isD b)).toList) B lv' kv' vv' uv' l t := fun h => ⟨hoth h.l (by decide), hoth h.k (by decide), hoth h.v (by decide), hoth h.u (by decide), h.ne⟩
  refine ⟨L.set i (rcells lv b.seed kv vv uv (isD b)), by simp [h1], fun k cs hk => ?_, ?_, fun k cs x hk hx => ?_⟩
  · by_cases e : k = i
    · subst e
      rw [List.getElem?_set_self (by omega)] at hk
      cases hk; exact hna
    · rw [List.getElem?_set_ne (fun h => e h.symm)] at hk
      exact h2 k cs hk
  · rw [List.length_set]
    unfold rcells
    rw [flat_set _ _ _ _ _ _ L i hsix (by omega)]
    exact own_setG (own_setG (own_setG (own_setG (own_setG (own_setG h3 (i * 6) lv) (i * 6 + 1) (.int .i64 b.seed)) (i * 6 + 1 + 1) kv) (i * 6 + 1 + 1 + 1) vv) (i * 6 + 1 + 1 + 1 + 1) uv) (i * 6 + 1 + 1 + 1 + 1 + 1) (.bool (isD b))
  · by_cases e : k = i
    · subst e
      rw [List.getElem?_set_self (by omega)] at hk
      rw [List.getElem?_set_self (by omega)] at hx
      cases hk; cases hx
      exact ⟨_, _, _, _, rfl, hR2 hr⟩
    · rw [List.getElem?_set_ne (fun h => e h.symm)] at hk hx
      obtain ⟨a1, a2, a3, a4, he, hR⟩ := h4 k cs x hk hx
      exact ⟨a1, a2, a3, a4, he, hR2 hR⟩
theorem numN_inj {a b : Option Nat} (h : numN a = numN b) : a = b := by
  cases a <;> cases b <;> simp [numN] at h ⊢ <;> omega
/-- a change where others refer to the buffer; where none does -/
theorem change_others {A : Sto} (hA : Good A) {g : Nat} (hg : g < 8) (ho : A.others g) (c : Buf) : A.change (g : Int) c = ({ A with shared := A.shared + 1 } : Sto).fresh (g : Int) c := by
  have e : A.own (g : Int) = { A.fresh (g : Int) (A.buf (g : Int)) with shared := A.shared + 1 } := by unfold Sto.own; rw [if_pos (by simpa using ho)]
  have hid : (A.own (g : Int)).id (g : Int) = some A.bufs.length := by
    rw [e]; unfold Sto.id Sto.fresh
    simp only [Int.toNat_natCast]
    rw [List.getElem?_set_self (by rw [hA.eight]; exact hg)]; rfl
  rw [change_eq hid, e]
  unfold Sto.fresh
  simp
theorem change_alone {A : Sto} {g i : Nat} (ho : ¬ A.others g) (hid : A.id (g : Int) = some i) (c : Buf) : A.change (g : Int) c = { A with bufs := A.bufs.set i c } := by
  have e : A.own (g : Int) = A := by unfold Sto.own; rw [if_neg (by simpa using ho)]
  rw [change_eq (by rw [e]; exact hid), e]
theorem does_ch {A : Sto} {o : OpV} (hr : refA A o = 0) (hk : o.kind = 3 ∨ o.kind = 4 ∨ o.kind = 5 ∨ o.kind = 7 ∨ o.kind = 9 ∨ o.kind = 10) : doA A o = if chB (A.buf o.fr) o then A.change o.fr (newB (A.buf o.fr) o) else A := by
  rw [doA_ok hr]
  have hp := refB_parts (b := A.buf o.fr) (o := o) hr
  unfold Sto.does chB newB
  rcases hk with hk | hk | hk | hk | hk | hk
  · simp [hk]
  · by_cases h : (A.buf o.fr).l.getD o.at_.toNat ByteArray.empty = o.key <;> rw [List.getD_eq_getElem?_getD] at h <;> simp [hk, h]
  · simp [hk]
  · simp only [hk, sortedB_eq]
    by_cases h : sortL (A.buf o.fr).l = (A.buf o.fr).l <;> simp [h]
  · simp only [hk]
    cases h : findT (HH (A.buf o.fr).seed) (A.buf o.fr).t o.key with
    | none => simp
    | some i => by_cases h2 : ev (pl (A.buf o.fr).t i) = o.n <;> simp [h2]
  · simp only [hk]
    have h9 := hp.2.2.2
    cases h : findT (HH (A.buf o.fr).seed) (A.buf o.fr).t o.key with
    | none => exact absurd ⟨hk, fnd_neg h⟩ h9
    | some i => simp
theorem own_ne {w : World} {B B' e e' s s' n m p q c c' : Nat} {xs ys : List Value} (h : w.ownsRow B e s (.slice (some ⟨p, 0, none⟩) n c) n xs) (h' : w.ownsRow B' e' s' (.slice (some ⟨q, 0, none⟩) m c') m ys) (he : e ≠ e') : p ≠ q := fun e2 => by
  subst e2
  obtain ⟨_, d1, hd1⟩ := own_block h (q := p) rfl
  obtain ⟨_, d2, hd2⟩ := own_block h' (q := p) rfl
  rw [hd1] at hd2; simp only [Option.some.injEq, Obj.cells.injEq] at hd2; exact he hd2.2.1
set_option maxHeartbeats 8000000 in
set_option maxRecDepth 100000 in
theorem DoI_change (v : Value) (A : Sto) (B : Nat) (hA : Good A) (hm : A.bufs.length ≤ 10000) (hs0 : 0 ≤ A.shared) (hs1 : A.shared ≤ 100000) (o : OpV) (hk : o.kind = 3 ∨ o.kind = 4 ∨ o.kind = 5 ∨ o.kind = 7 ∨ o.kind = 9 ∨ o.kind = 10) (hr : refA A o = 0) (w : World) (h : DAt w B v A) :
    Calls Try.prog 39 #[v, .agg o.cells] w (DoIPost v A o w) := by
  obtain ⟨g, hg, hg8⟩ := form_frf (ref_form hr)
  have hku : (useG o.kind).kind ≠ 0 := by rcases hk with h | h | h | h | h | h <;> rw [h] <;> decide
  have hk1 : (o.kind == 1) = false := by rcases hk with h | h | h | h | h | h <;> rw [h] <;> decide
  have hk8 : (o.kind == 8) = false := by rcases hk with h | h | h | h | h | h <;> rw [h] <;> decide
  have hk2 : (o.kind == 2) = false := by rcases hk with h | h | h | h | h | h <;> rw [h] <;> decide
  have hk6 : (o.kind == 6) = false := by rcases hk with h | h | h | h | h | h <;> rw [h] <;> decide
  have hk11 : (o.kind == 11) = false := by rcases hk with h | h | h | h | h | h <;> rw [h] <;> decide
  have HK := Lib.hid hk
  clear hk
  obtain ⟨nv, bv, hv, -⟩ := id h
  obtain ⟨M, hM⟩ : ∃ M, M = A.made := ⟨_, rfl⟩
  obtain ⟨sh, hsh⟩ : ∃ sh, sh = A.shared := ⟨_, rfl⟩
  rw [← hM, ← hsh] at hv
  subst hv
  have HA := Lib.hid hA
  have HMS := Lib.hid (And.intro hM hsh)
  have HD := Lib.hid h
  clear hA hM hsh h
  go_enter Try.func39, Try.ntmps39
  go_upto_region 1 with (fail)
  refine wp_world (fun W => Below w.heap.size w W ∧ W.heap[w.heap.size]? = some (.cells (sc66 nv bv M sh) 66 (0, 0)) ∧ W.heap[w.heap.size + 1]? = some (.cells o.cells 39 (0, 0)) ∧ W.heap[w.heap.size + 2]? = some (.cells (sc66 (.slice none 0 0) (.slice none 0 0) 0 0) 66 (0, 0))) ⟨(((Below.refl w.heap.size w).alloc (Nat.le_refl _) _).alloc (by simp) _).alloc (by simp; omega) _, ha_old (ha_old (ha_new rfl)), ha_old (ha_new (by simp)), ha_new (by simp)⟩ ?_
  rintro W ⟨hb, g1, g2, g3⟩
  apply wp_region_lit
  ((with_reducible apply wl_rowG); exact rfl; exact rfl; exact rowS g1)
  try simp only [Zq]
  ((with_reducible apply wl_rowG); exact rfl; exact rfl; exact rowOp g2)
  try simp only [Zq]
  replace HD := Lib.hid (HD.out.below hb)
  refine wl_ck rfl (fun K hK => ?_); go_simp; refine ⟨_, _, ⟨rfl, rfl⟩, hK _ _ ⟨_, checkI_any _ A B HA.out o _ HD.out, ?_⟩⟩; clear hK K; rintro e w1 ⟨rfl, hb1⟩; refine ⟨_, rfl, ?_⟩; simp only [Zq]
  replace g1 := below_look hb1 g1
  replace g2 := below_look hb1 g2
  replace g3 := below_look hb1 g3
  replace HD := Lib.hid (HD.out.below hb1)
  replace hb := hb.trans (hb1.mono hb.size)
  clear hb1
  refine wl_k rfl (fun K hK => ?_); go_simp; refine hK _ ?_; clear hK K
  try rw [hr]
  go_upto_region 4 with (fail)
  apply wp_region_lit
  ((with_reducible apply wl_rowG); exact rfl; exact rfl; exact rowS g1)
  try simp only [Zq]
  obtain ⟨C, hC⟩ : ∃ C, C = w1.heap.size := ⟨_, rfl⟩
  refine wl_ck rfl (fun K hK => ?_); go_simp; refine ⟨_, _, ⟨rfl, rfl⟩, hK _ _ ⟨_, CloneI_any _ A B (by omega) (good_hG HA.out) _ HD.out, ?_⟩⟩; clear hK K; rintro e w2 ⟨v1, rfl, hd1, hb1⟩; refine ⟨_, rfl, ?_⟩; simp only [Zq]
  rw [← hC] at hd1
  have lC := heap_lt g3
  rw [← hC] at lC
  have hC2 : C ≤ w2.heap.size := by rw [hC]; exact hb1.size
  replace g1 := below_look hb1 g1
  replace g2 := below_look hb1 g2
  replace g3 := below_look hb1 g3
  replace hb := hb.trans (hb1.mono hb.size)
  clear hb1 HD hC
  obtain ⟨nv1, bv1, hv1, hn1, hbs1⟩ := hd1
  rw [← HMS.out.1, ← HMS.out.2] at hv1
  subst hv1
  obtain ⟨ys, hys⟩ := hbs1.own
  have hone1 := sc66_one hn1 hys M sh
  refine wl_putG w.heap.size (sc66 nv1 bv1 M sh) rfl rfl 66 _ g1 info66 rfl hone1 ?_
  rw [put_noneA]
  have G1 := Lib.hid (hr_new (cs := sc66 nv1 bv1 M sh) g1)
  have G2 := Lib.hid (hr_old (g := w.heap.size) (cs := sc66 nv1 bv1 M sh) g2 (by omega))
  have G3 := Lib.hid (hr_old (g := w.heap.size) (cs := sc66 nv1 bv1 M sh) g3 (by omega))
  have HN := Lib.hid (own_rowT hn1 g1 (by decide) (sc66 nv1 bv1 M sh))
  have HBS := Lib.hid (hbs1.rowT g1 (by decide) (by decide) (by decide) (by decide) (sc66 nv1 bv1 M sh))
  have HB := Lib.hid (below_setRow hb (g := w.heap.size) (Nat.le_refl _) (sc66 nv1 bv1 M sh))
  have hC3 : C ≤ (w2.setRow w.heap.size (sc66 nv1 bv1 M sh)).heap.size := by simpa using hC2
  clear g1 g2 g3 hn1 hbs1 hb hys hC2 hone1 ys
  generalize w2.setRow w.heap.size (sc66 nv1 bv1 M sh) = w3 at *
  have hgI : (g : Int) < 8 := by omega
  have hkd := ref_kd hr hku
  have hk1 : (A.buf o.fr).kd ≠ 0 := by rw [hkd]; exact hku
  obtain ⟨i, hid⟩ := id_of_kd hk1
  rw [hg] at hid
  have hil := HA.out.there g i (by have := id_names HA.out (n := (g : Int)) (by omega) hgI; rwa [hid] at this)
  obtain ⟨b, hbi⟩ : ∃ b, A.bufs[i]? = some b := ⟨_, List.getElem?_eq_getElem hil⟩
  have HBU : Hid (A.buf o.fr = b) := Lib.hid (by rw [hg]; exact buf_of hid hbi)
  have HGB := Lib.hid (HA.out.bufs i b hbi)
  have HID := Lib.hid hid
  have HBI := Lib.hid hbi
  obtain ⟨p, c, rfl, hpC⟩ := own_p HN.out (by omega)
  have hnm := own_name HN.out hg8 (id_names HA.out (n := (g : Int)) (by omega) hgI)
  rw [hid, show numN (some i) = (i : Int) from rfl] at hnm
  obtain ⟨q, cap, cur, rfl, hqC, hcur, hall⟩ := HBS.out.cells (by omega)
  obtain ⟨lv, kv, vv, uv, hx, -, hRS, hNA⟩ := hall i b hbi
  have HX := Lib.hid hx
  have HRS := Lib.hid hRS
  obtain ⟨n2, hn2⟩ : ∃ n2, n2 = A.bufs.length := ⟨_, rfl⟩
  have HN2 := Lib.hid hn2
  rw [← hn2] at hil HBS G1
  have hilI : (i : Int) < (n2 : Int) := by omega
  obtain ⟨x0, x1, -, -, -, -⟩ := op_cell G2.out
  try rw [hk] at x0
  rw [hg] at x1
  obtain ⟨a0, a1, -, -⟩ := s66_cell G1.out
  clear hall hx hRS hbi hid hn2 hkd hk1 hNA
  try rw [← HN2.out]
  go_upto_region 13 with (fail)
  refine wp_region_held_drew (S := Kept [] w3) mixed (Kept.drew [] w3) (fun hS => ?_)
  refine hk3 (i := 0) rfl (by kernel_rfl) Zh hS rfl (fun K hK => ?_); go_simp; refine hK _ ?_; clear hK K; try simp only [Zq]
  refine hv3 (i := 1) rfl (by kernel_rfl) Zg hS rfl (fun w' hw' => ex_one rfl (one64 (hw'.cell a1 (by simp <;> omega)))) ?_; try simp only [Zq]
  refine hk3 (i := 2) rfl (by kernel_rfl) Zh hS rfl (fun K hK => ?_); go_simp; refine hK _ ?_; clear hK K; try simp only [Zq]
  refine hv3 (i := 3) rfl (by kernel_rfl) Zg hS rfl (fun w' hw' => ex_one rfl (one63 (hw'.cell a0 (by simp <;> omega)))) ?_; try simp only [Zq]
  refine hk3 (i := 4) rfl (by kernel_rfl) Zh hS rfl (fun K hK => ?_); go_simp; refine hK _ ?_; clear hK K; try simp only [Zq]
  refine hv3 (i := 5) rfl (by kernel_rfl) Zg hS rfl (fun w' hw' => ex_one rfl (one3 (hw'.cell x1 (by simp <;> omega)))) ?_; try simp only [Zq]
  refine hk3 (i := 6) rfl (by kernel_rfl) Zh hS rfl (fun K hK => ?_); go_simp; refine hK _ ?_; clear hK K; try simp only [Zq]
  refine hv3 (i := 7) rfl (by kernel_rfl) Zg hS rfl (fun w' hw' => ex_one rfl (one3 (hw'.cell hnm (by simp <;> omega)))) ?_; try simp only [Zq]
  refine hk3 (i := 8) rfl (by kernel_rfl) Zh hS rfl (fun K hK => ?_); go_simp; refine hK _ ?_; clear hK K; try simp only [Zq]
  (refine hv3 (i := 9) rfl (by kernel_rfl) Zg hS rfl (fun w' hw' => ex_row rfl ((fun h => row_mid h HX.out u105 rfl rfl info105) (hw'.look hcur (by simp)))) ?_; try simp only [Zy])
  have hb1 := (Below.refl w3.drew.heap.size w3.drew).alloc (Nat.le_refl _) (.cells noR 105)
  have hSn := hS.below hb1
  have hal : (w3.drew.alloc (.cells noR 105)).heap[w3.drew.heap.size]? = some (.cells noR 105 (0, 0)) := ha_new rfl
  have hp7 : w3.heap.size ≤ w3.drew.heap.size := hS.size
  refine ha_do (i := 10) (by kernel_rfl) rfl rfl (ex_alloc105 rfl _ _) hSn ?_; try simp only [Zy]
  replace hS := hSn
  clear hSn hb1
  generalize w3.drew.alloc (.cells noR 105) = w4 at *
  generalize w3.drew.heap.size = p7 at hal hp7 ⊢
  refine ha_store (i := 11) (by kernel_rfl) rfl rfl 105 _ _ rfl p7 (rcells lv b.seed kv vv uv (isD b)) rfl rfl 105 _ hal info105 rfl (HRS.out.one b.seed (isD b)) (hS.setNew hp7 _) (fun hS => ?_); try simp only [Zy]
  refine wpAnyH_done (by kernel_rfl) ?_ _
  rw [put_noneA]
  have hbw := hS.toBelow (Nat.le_refl _) (by simp)
  have hp7C : C ≤ p7 := Nat.le_trans hC3 hp7
  have HB7 := Lib.hid (hr_new (cs := rcells lv b.seed kv vv uv (isD b)) hal)
  replace G1 := Lib.hid (below_look hbw G1.out)
  replace G2 := Lib.hid (below_look hbw G2.out)
  replace G3 := Lib.hid (below_look hbw G3.out)
  replace HN := Lib.hid (own_below HN.out hbw)
  replace HBS := Lib.hid (HBS.out.below hbw)
  replace HRS := Lib.hid (HRS.out.below hbw)
  replace HB := Lib.hid (HB.out.trans (hbw.mono HB.out.size))
  replace hC3 : C ≤ (w4.setRow p7 (rcells lv b.seed kv vv uv (isD b))).heap.size := Nat.le_trans hC3 hbw.size
  clear hS hal hbw hp7 x0 x1 a0 a1 hnm hcur HX hilI hil
  generalize w4.setRow p7 (rcells lv b.seed kv vv uv (isD b)) = w3 at *
  obtain ⟨x0, x1, -, -, -, -⟩ := op_cell G2.out
  rw [hg] at x1
  have HRA : Hid (RAt w3 0 (.agg (rcells lv b.seed kv vv uv (isD b))) b) := Lib.hid ⟨_, _, _, _, rfl, HRS.out.weak (Nat.zero_le _)⟩
  go_upto_region 18 with (fail)
  apply wp_region_lit
  ((with_reducible apply wl_rowG); exact rfl; exact rfl; exact rowR HB7.out); try simp only [Zy]
  ((with_reducible apply wl_rowG); exact rfl; exact rfl; exact rowOp G2.out); try simp only [Zy]
  refine wl_ck rfl (fun K hK => ?_); go_simp; refine ⟨_, _, ⟨rfl, rfl⟩, hK _ _ ⟨_, changedI_any _ b o 0 HGB.out (by have := hr; rw [refA_eq, HBU.out] at this; exact this) HK.out _ HRA.out, ?_⟩⟩; clear hK K; rintro e w5 ⟨v5, rfl, hr5, hb5⟩; refine ⟨_, rfl, ?_⟩; simp only [Zq]
  iterate 3 (refine wl_k rfl (fun K hK => ?_); go_simp; refine hK _ ?_; clear hK K)
  obtain ⟨N, hN⟩ : ∃ N, N = w3.heap.size := ⟨_, rfl⟩
  obtain ⟨ch, hch⟩ : ∃ ch, ch = chB b o := ⟨_, rfl⟩
  rw [← hch] at hr5 ⊢
  rw [← hN] at hr5
  obtain ⟨b2, hb2⟩ : ∃ b2, b2 = (if ch = true then newB b o else b) := ⟨_, rfl⟩
  rw [← hb2] at hr5
  have HCH := Lib.hid (And.intro hch hb2)
  obtain ⟨lv5, kv5, vv5, uv5, rfl, hrs5⟩ := hr5
  have hpN : p < N := by rw [hN]; exact own_lt HN.out p rfl
  have hCN : C ≤ N := by rw [hN]; exact hC3
  have HNA : Hid (∀ x, (Value.slice (some ⟨p, 0, none⟩) 8 c).ownBlock = some x → ¬ RFoot (.agg (rcells lv5 b2.seed kv5 vv5 uv5 (isD b2))) x) := Lib.hid (fun x h1 h2 => by
    have h3 := (RAt.foot (b := b2) ⟨_, _, _, _, rfl, hrs5⟩ h2).1
    have : p = x := Option.some.inj h1
    omega)
  rw [hN] at hCN
  replace G1 := Lib.hid (below_look hb5 G1.out)
  replace G2 := Lib.hid (below_look hb5 G2.out)
  replace G3 := Lib.hid (below_look hb5 G3.out)
  replace HN := Lib.hid (own_below HN.out hb5)
  replace HBS := Lib.hid (HBS.out.below hb5)
  replace HB := Lib.hid (HB.out.trans (hb5.mono HB.out.size))
  replace hC3 : C ≤ w5.heap.size := Nat.le_trans hC3 hb5.size
  have HR5 := Lib.hid (hrs5.weak (show C ≤ N by rw [hN]; exact hCN))
  clear hb5 hrs5 hN hch hb2 HRA HRS HB7 hp7C hpN hCN x0 x1
  refine wl_new (fun ev w => ex_alloc105 rfl ev w) ?_
  intro W6 p8 hb6 hl6 h6
  have hqp8 : q < p8 := by
    obtain ⟨qs, hqs⟩ := HBS.out.own
    exact Nat.lt_of_lt_of_le (own_lt hqs q rfl) hl6
  refine wl_putG p8 (rcells lv5 b2.seed kv5 vv5 uv5 (isD b2)) rfl rfl 105 _ h6 info105 rfl (HR5.out.one b2.seed (isD b2)) ?_
  rw [put_noneA]
  have hbb := below_setRow hb6 (g := p8) hl6 (rcells lv5 b2.seed kv5 vv5 uv5 (isD b2))
  have H8 := Lib.hid (hr_new (cs := rcells lv5 b2.seed kv5 vv5 uv5 (isD b2)) h6)
  replace G1 := Lib.hid (below_look hbb G1.out)
  replace G2 := Lib.hid (below_look hbb G2.out)
  replace G3 := Lib.hid (below_look hbb G3.out)
  replace HN := Lib.hid (own_below HN.out hbb)
  replace HBS := Lib.hid (HBS.out.below hbb)
  replace HR5 := Lib.hid (HR5.out.below hbb)
  replace HB := Lib.hid (HB.out.trans (hbb.mono HB.out.size))
  have hC8 : C ≤ p8 := Nat.le_trans hC3 hl6
  replace hC3 : C ≤ (W6.setRow p8 (rcells lv5 b2.seed kv5 vv5 uv5 (isD b2))).heap.size := Nat.le_trans hC3 hbb.size
  clear hb6 h6 hbb hl6
  generalize W6.setRow p8 (rcells lv5 b2.seed kv5 vv5 uv5 (isD b2)) = w6 at *
  refine wl_k rfl (fun K hK => ?_); go_simp; refine hK _ ?_; clear hK K
  have HDX : Hid (doA A o = if ch = true then A.change (g : Int) b2 else A) := Lib.hid (by
    rw [does_ch hr HK.out, HBU.out, ← HCH.out.1, hg]
    have := HCH.out.2
    cases ch with
    | true => rw [if_pos rfl, if_pos rfl, this, if_pos rfl]
    | false => rfl)
  clear HCH
  cases ch with
  | false =>
    go_upto_region 20 with (fail)
    apply wp_region_lit
    ((with_reducible apply wl_rowG); exact rfl; exact rfl; exact rowS G1.out); try simp only [Zy]
    obtain ⟨ys, hys⟩ := HBS.out.own
    have hone2 := sc66_one HN.out hys M sh
    have g3 := G3.out
    have HBF := Lib.hid (below_setRow HB.out (g := w.heap.size + 2) (by omega) (sc66 (.slice (some ⟨p, 0, none⟩) 8 c) (.slice (some ⟨q, 0, none⟩) n2 cap) M sh))
    have HD2 : Hid (DAt (w6.setRow (w.heap.size + 2) (sc66 (.slice (some ⟨p, 0, none⟩) 8 c) (.slice (some ⟨q, 0, none⟩) n2 cap) M sh)) w.heap.size (.agg (sc66 (.slice (some ⟨p, 0, none⟩) 8 c) (.slice (some ⟨q, 0, none⟩) n2 cap) M sh)) A) := Lib.hid ⟨_, _, by rw [HMS.out.1, HMS.out.2], own_weak (own_rowT HN.out g3 (by decide) _) (by omega), (HBS.out.rowT g3 (by decide) (by decide) (by decide) (by decide) _).weak (by omega)⟩
    have HDO : Hid (doA A o = A) := Lib.hid (by rw [HDX.out]; rfl)
    refine wl_putG (w.heap.size + 2) (sc66 (.slice (some ⟨p, 0, none⟩) 8 c) (.slice (some ⟨q, 0, none⟩) n2 cap) M sh) rfl rfl 66 _ g3 info66 rfl (hone2) ?_
    rw [put_noneA]
    have HFIN := Lib.hid (hr_new (cs := sc66 (.slice (some ⟨p, 0, none⟩) 8 c) (.slice (some ⟨q, 0, none⟩) n2 cap) M sh) g3)
    clear g3 hone2 hys HN HBS G1 G2 G3 HB
    go_wp2_with fail
    exact bodyPost_ret (res_66t rfl _ _ (w.heap.size + 2) rfl rfl HFIN.out) rfl ⟨_, by rw [hr]; rfl, HBF.out, Or.inr ⟨hr, by rw [HDO.out]; exact HD2.out⟩⟩
  | true =>
    replace HDX : Hid (doA A o = A.change (g : Int) b2) := Lib.hid HDX.out
    go_wp2_with fail
    have HNO : Hid (∀ j, j < 0 → j = g ∨ A.names[j]? ≠ A.names[g]?) := Lib.hid (fun j hj => by omega)
    go_loopw [10] (fun i wr => ∃ j : Nat, j ≤ 8 ∧ i = .int .i64 (j : Int) ∧ Hid (∀ k, k < j → k = g ∨ A.names[k]? ≠ A.names[g]?) ∧ Hid (Below w6.heap.size w6 wr)) (fun i _ => 8 - (intOf i).toNat)
    case atStart => exact ⟨0, by omega, rfl, HNO, Lib.hid (Below.refl _ _)⟩
    case round =>
      clear HNO
      obtain ⟨j, hj, rfl, HNO, HW⟩ := hrel
      replace G1 := Lib.hid (below_look HW.out G1.out)
      replace G2 := Lib.hid (below_look HW.out G2.out)
      replace G3 := Lib.hid (below_look HW.out G3.out)
      replace H8 := Lib.hid (below_look HW.out H8.out)
      have HNr := Lib.hid (own_below HN.out HW.out)
      have HBSr := Lib.hid (HBS.out.below HW.out)
      have HR5r := Lib.hid (HR5.out.below HW.out)
      have HBr := Lib.hid (HB.out.trans (HW.out.mono HB.out.size))
      have hC3r : C ≤ wr.heap.size := Nat.le_trans hC3 HW.out.size
      obtain ⟨x0, x1, -, -, -, -⟩ := op_cell G2.out
      rw [hg] at x1
      obtain ⟨a0, a1, a2, a3⟩ := s66_cell G1.out
      by_cases hlt : j < 8
      · have hltI : (j : Int) < 8 := by omega
        go_upto_region 24 with (fail)
        refine wp_region_held_drew (S := Kept [] wr) mixed (Kept.drew [] wr) (fun hS => ?_)
        refine hk3 (i := 0) rfl (by kernel_rfl) Zh hS rfl (fun K hK => ?_); go_simp; refine hK _ ?_; clear hK K; try simp only [Zq]
        refine hk3 (i := 1) rfl (by kernel_rfl) Zh hS rfl (fun K hK => ?_); go_simp; refine hK _ ?_; clear hK K; try simp only [Zq]
        refine hv3 (i := 2) rfl (by kernel_rfl) Zg hS rfl (fun w' hw' => ex_one rfl (one3 (hw'.cell x1 (by simp <;> omega)))) ?_; try simp only [Zq]
        by_cases hjg : j = g
        · have hjI : ((j : Int) != (g : Int)) = false := by simp [hjg]
          have HJG := Lib.hid hjg
          clear hjg
          refine hk3 (i := 3) rfl (by kernel_rfl) Zh hS rfl (fun K hK => ?_); go_simp; refine hK _ ?_; clear hK K; try simp only [Zq]
          refine hk3 (i := 4) rfl (by kernel_rfl) Zh hS rfl (fun K hK => ?_); go_simp; refine hK _ ?_; clear hK K; try simp only [Zq]
          refine hs3 (i := 5) rfl (by kernel_rfl) Zg hS rfl ?_; simp only [Zy]
          refine hs3 (i := 6) rfl (by kernel_rfl) Zg hS rfl ?_; simp only [Zy]
          refine hs3 (i := 7) rfl (by kernel_rfl) Zg hS rfl ?_; simp only [Zy]
          refine hs3 (i := 8) rfl (by kernel_rfl) Zg hS rfl ?_; simp only [Zy]
          refine hs3 (i := 9) rfl (by kernel_rfl) Zg hS rfl ?_; simp only [Zy]
          refine hs3 (i := 10) rfl (by kernel_rfl) Zg hS rfl ?_; simp only [Zy]
          refine hs3 (i := 11) rfl (by kernel_rfl) Zg hS rfl ?_; simp only [Zy]
          refine hs3 (i := 12) rfl (by kernel_rfl) Zg hS rfl ?_; simp only [Zy]
          refine hs3 (i := 13) rfl (by kernel_rfl) Zg hS rfl ?_; simp only [Zy]
          refine hs3 (i := 14) rfl (by kernel_rfl) Zg hS rfl ?_; simp only [Zy]
          refine hs3 (i := 15) rfl (by kernel_rfl) Zg hS rfl ?_; simp only [Zy]
          refine hs3 (i := 16) rfl (by kernel_rfl) Zg hS rfl ?_; simp only [Zy]
          refine hk3 (i := 17) rfl (by kernel_rfl) Zh hS rfl (fun K hK => ?_); go_simp; refine hK _ ?_; clear hK K; try simp only [Zq]
          refine wpAnyH_done (by kernel_rfl) ?_ _
          have HW2 := Lib.hid (HW.out.trans ((hS.toBelow (Nat.le_refl _) (by simp)).mono HW.out.size))
          have HNO2 : Hid (∀ k, k < j + 1 → k = g ∨ A.names[k]? ≠ A.names[g]?) := Lib.hid (fun k hk => if h : k < j then HNO.out k h else Or.inl (by have := HJG.out; omega))
          clear hS HJG
          go_wp2_with fail
          go_roundw
          case rel => exact ⟨j + 1, by omega, by go_num, HNO2, HW2⟩
          case measure => simp [intOf]; omega
        · have hjI : ((j : Int) != (g : Int)) = true := by simp; omega
          have hj8 : j < 8 := hlt
          have hgI : (g : Int) < 8 := by omega
          have hnj := own_name HNr.out hj8 (id_names HA.out (n := (j : Int)) (by omega) hltI)
          have hng := own_name HNr.out hg8 (id_names HA.out (n := (g : Int)) (by omega) hgI)
          obtain ⟨X, hX⟩ : ∃ X, X = numN (A.id (j : Int)) := ⟨_, rfl⟩
          obtain ⟨Y, hY⟩ : ∃ Y, Y = numN (A.id (g : Int)) := ⟨_, rfl⟩
          rw [← hX] at hnj
          rw [← hY] at hng
          have hXY : X = Y ↔ A.names[j]? = A.names[g]? := by
            have e1 := id_names HA.out (n := (j : Int)) (by omega) hltI
            have e2 := id_names HA.out (n := (g : Int)) (by omega) hgI
            simp only [Int.toNat_natCast] at e1 e2
            rw [hX, hY, e1, e2]
            exact ⟨fun h => by rw [numN_inj h], fun h => by rw [Option.some.inj h]⟩
          have HXY := Lib.hid hXY
          clear hXY hX hY
          refine hk3 (i := 3) rfl (by kernel_rfl) Zh hS rfl (fun K hK => ?_); go_simp; refine hK _ ?_; clear hK K; try simp only [Zq]
          refine hk3 (i := 4) rfl (by kernel_rfl) Zh hS rfl (fun K hK => ?_); go_simp; refine hK _ ?_; clear hK K; try simp only [Zq]
          refine hk3 (i := 5) rfl (by kernel_rfl) Zh hS rfl (fun K hK => ?_); go_simp; refine hK _ ?_; clear hK K; try simp only [Zq]
          refine hv3 (i := 6) rfl (by kernel_rfl) Zg hS rfl (fun w' hw' => ex_one rfl (one63 (hw'.cell a0 (by simp <;> omega)))) ?_; try simp only [Zq]
          refine hk3 (i := 7) rfl (by kernel_rfl) Zh hS rfl (fun K hK => ?_); go_simp; refine hK _ ?_; clear hK K; try simp only [Zq]
          refine hk3 (i := 8) rfl (by kernel_rfl) Zh hS rfl (fun K hK => ?_); go_simp; refine hK _ ?_; clear hK K; try simp only [Zq]
          refine hv3 (i := 9) rfl (by kernel_rfl) Zg hS rfl (fun w' hw' => ex_one rfl (one3 (hw'.cell hnj (by simp <;> omega)))) ?_; try simp only [Zq]
          refine hk3 (i := 10) rfl (by kernel_rfl) Zh hS rfl (fun K hK => ?_); go_simp; refine hK _ ?_; clear hK K; try simp only [Zq]
          refine hv3 (i := 11) rfl (by kernel_rfl) Zg hS rfl (fun w' hw' => ex_one rfl (one63 (hw'.cell a0 (by simp <;> omega)))) ?_; try simp only [Zq]
          refine hk3 (i := 12) rfl (by kernel_rfl) Zh hS rfl (fun K hK => ?_); go_simp; refine hK _ ?_; clear hK K; try simp only [Zq]
          refine hv3 (i := 13) rfl (by kernel_rfl) Zg hS rfl (fun w' hw' => ex_one rfl (one3 (hw'.cell x1 (by simp <;> omega)))) ?_; try simp only [Zq]
          refine hk3 (i := 14) rfl (by kernel_rfl) Zh hS rfl (fun K hK => ?_); go_simp; refine hK _ ?_; clear hK K; try simp only [Zq]
          refine hv3 (i := 15) rfl (by kernel_rfl) Zg hS rfl (fun w' hw' => ex_one rfl (one3 (hw'.cell hng (by simp <;> omega)))) ?_; try simp only [Zq]
          refine hk3 (i := 16) rfl (by kernel_rfl) Zh hS rfl (fun K hK => ?_); go_simp; refine hK _ ?_; clear hK K; try simp only [Zq]
          refine hk3 (i := 17) rfl (by kernel_rfl) Zh hS rfl (fun K hK => ?_); go_simp; refine hK _ ?_; clear hK K; try simp only [Zq]
          refine wpAnyH_done (by kernel_rfl) ?_ _
          have hbw := hS.toBelow (Nat.le_refl _) (by simp)
          clear hS hnj hng x0 x1 a0 a1 a2 a3
          cases hxy : (X == Y) with
          | false =>
            have HW2 := Lib.hid (HW.out.trans (hbw.mono HW.out.size))
            have HNO2 : Hid (∀ k, k < j + 1 → k = g ∨ A.names[k]? ≠ A.names[g]?) := Lib.hid (fun k hk => if h : k < j then HNO.out k h else Or.inr (by
              have : k = j := by omega
              subst this
              exact fun e => by rw [HXY.out.2 e] at hxy; simp at hxy))
            clear hbw hjg
            go_wp2_with fail
            go_roundw
            case rel => exact ⟨j + 1, by omega, by go_num, HNO2, HW2⟩
            case measure => simp [intOf]; omega
          | true =>
            have HOT : Hid (A.others g) := Lib.hid ⟨j, hj8, hjg, HXY.out.1 (by simpa using hxy)⟩
            replace G1 : Hid (wr.drew.heap[w.heap.size]? = _) := Lib.hid (below_look hbw G1.out)
            replace G2 := Lib.hid (below_look hbw G2.out)
            replace G3 := Lib.hid (below_look hbw G3.out)
            replace H8 := Lib.hid (below_look hbw H8.out)
            replace HNr := Lib.hid (own_below HNr.out hbw)
            replace HBSr := Lib.hid (HBSr.out.below hbw)
            replace HR5r := Lib.hid (HR5r.out.below hbw)
            have HB := Lib.hid (HBr.out.trans (hbw.mono HBr.out.size))
            have hC3 := Nat.le_trans hC3r hbw.size
            clear hbw HW HNO HBr hC3r
            generalize wr.drew = w7 at *
            obtain ⟨-, x1, -, -, -, -⟩ := op_cell G2.out
            rw [hg] at x1
            have a3 := (s66_cell G1.out).2.2.2
            have hw2 : IntKind.i64.wrap (sh + 1) = sh + 1 := by have := HMS.out.2; rw [wrap_small _ (by omega) (by omega)]
            go_upto_region 25 with (fail)
            apply wp_region_lit
            refine wl_k rfl (fun K hK => ?_); go_simp; refine hK _ ?_; clear hK K
            ((with_reducible apply wl_oneG); exact rfl; exact rfl; exact one3 a3); try simp only [Zy]
            refine wl_k rfl (fun K hK => ?_); go_simp; refine hK _ ?_; clear hK K
            try rw [hw2]
            refine wl_k rfl (fun K hK => ?_); go_simp; refine hK _ ?_; clear hK K
            refine wl_storeC rfl 3 _ _ rfl w.heap.size 3 (.int .i64 (sh + 1)) rfl rfl (by kernel_rfl) rfl (by rw [a3]; rfl) (frozen_of_row _ _ _ _ _ G1.out) ?_
            rw [put_noneA]
            have HN9 := Lib.hid (own_cellT HNr.out G1.out (by decide) 3 (.int .i64 (sh + 1)))
            have HBS9 := Lib.hid (HBSr.out.cellT G1.out (by decide) (by decide) (by decide) (by decide) 3 (.int .i64 (sh + 1)))
            have HR9 := Lib.hid (HR5r.out.cellT G1.out (by decide) (by decide) (by decide) 3 (.int .i64 (sh + 1)))
            have H89 : Hid ((w7.setCell ⟨w.heap.size, 3, none⟩ (.int .i64 (sh + 1))).heap[p8]? = _) := Lib.hid (hs_old H8.out (show p8 ≠ w.heap.size by omega))
            replace G2 : Hid ((w7.setCell ⟨w.heap.size, 3, none⟩ (.int .i64 (sh + 1))).heap[w.heap.size + 1]? = _) := Lib.hid (hs_old G2.out (show w.heap.size + 1 ≠ w.heap.size by omega))
            replace G3 : Hid ((w7.setCell ⟨w.heap.size, 3, none⟩ (.int .i64 (sh + 1))).heap[w.heap.size + 2]? = _) := Lib.hid (hs_old G3.out (show w.heap.size + 2 ≠ w.heap.size by omega))
            replace G1 : Hid ((w7.setCell ⟨w.heap.size, 3, none⟩ (.int .i64 (sh + 1))).heap[w.heap.size]? = some (.cells (sc66 (.slice (some ⟨p, 0, none⟩) 8 c) (.slice (some ⟨q, 0, none⟩) n2 cap) M (sh + 1)) 66 (0, 0))) := Lib.hid ((hs_new G1.out).trans rfl)
            replace HB := Lib.hid (HB.out.setCell (p := ⟨w.heap.size, 3, none⟩) (Nat.le_refl _) (.int .i64 (sh + 1)))
            have hC9 : C ≤ (w7.setCell ⟨w.heap.size, 3, none⟩ (.int .i64 (sh + 1))).heap.size := by simpa using hC3
            clear HNr HBSr HR5r H8 hC3 a3 x1 hw2
            generalize w7.setCell ⟨w.heap.size, 3, none⟩ (.int .i64 (sh + 1)) = w8 at *
            obtain ⟨-, x1, -, -, -, -⟩ := op_cell G2.out
            rw [hg] at x1
            have HCO := Lib.hid (change_others HA.out hg8 HOT.out b2)
            go_upto_region 26 with (fail)
            apply wp_region_lit
            ((with_reducible apply wl_rowG); exact rfl; exact rfl; exact rowS G1.out); try simp only [Zy]
            refine wl_k rfl (fun K hK => ?_); go_simp; refine hK _ ?_; clear hK K
            ((with_reducible apply wl_oneG); exact rfl; exact rfl; exact one3 x1); try simp only [Zy]
            ((with_reducible apply wl_rowG); exact rfl; exact rfl; exact rowR H89.out); try simp only [Zy]
            refine wl_ck rfl (fun K hK => ?_); go_simp; refine ⟨_, _, ⟨rfl, rfl⟩, hK _ _ ⟨_, FreshI_any _ { A with shared := A.shared + 1 } C HA.out.eight g hg8 _ b2 HA.out.off.1 (show A.made ≤ 100000 from made_le HA.out hm) (by show A.bufs.length ≤ 100000; omega) _ hC9 ⟨_, _, by rw [HMS.out.1, HMS.out.2]; rfl, HN9.out, HBS9.out⟩ ⟨_, _, _, _, rfl, HR9.out⟩ (fun nv' bv' m s e => by cases e; exact HNA.out), ?_⟩⟩; clear hK K; rintro e w4 ⟨v2, rfl, hd2, hb4⟩; refine ⟨_, rfl, ?_⟩; simp only [Zq]
            clear x1 HN9 HBS9 HR9 H89 HNA
            have HN := HB
            have HBS := HB
            obtain ⟨nv2, bv2, hv2, hn2, hbs2⟩ := hd2
            obtain ⟨M2, hM2⟩ : ∃ M2, M2 = (({ A with shared := A.shared + 1 } : Sto).fresh (g : Int) b2).made := ⟨_, rfl⟩
            obtain ⟨sh2, hsh2⟩ : ∃ sh2, sh2 = (({ A with shared := A.shared + 1 } : Sto).fresh (g : Int) b2).shared := ⟨_, rfl⟩
            rw [← hM2, ← hsh2] at hv2
            subst hv2
            obtain ⟨ys, hys⟩ := hbs2.own
            have hone2 := sc66_one hn2 hys M2 sh2
            have g3 := (hb4.block _ (by omega)).trans G3.out
            have HBF := Lib.hid (below_setRow (HB.out.trans (hb4.mono (show w.heap.size ≤ C by omega))) (g := w.heap.size + 2) (by omega) (sc66 nv2 bv2 M2 sh2))
            have HD2 : Hid (DAt (w4.setRow (w.heap.size + 2) (sc66 nv2 bv2 M2 sh2)) w.heap.size (.agg (sc66 nv2 bv2 M2 sh2)) (({ A with shared := A.shared + 1 } : Sto).fresh (g : Int) b2)) := Lib.hid ⟨nv2, bv2, by rw [hM2, hsh2], own_weak (own_rowT hn2 g3 (by decide) _) (by omega), (hbs2.rowT g3 (by decide) (by decide) (by decide) (by decide) _).weak (by omega)⟩
            have HDO : Hid (doA A o = ({ A with shared := A.shared + 1 } : Sto).fresh (g : Int) b2) := Lib.hid (by rw [HDX.out, HCO.out])
            clear hn2 hbs2 hM2 hsh2 hys HB G1 G2 G3 HN HBS hb4
            refine wl_putG (w.heap.size + 2) (sc66 nv2 bv2 M2 sh2) rfl rfl 66 _ g3 info66 rfl (hone2) ?_
            rw [put_noneA]
            have HFIN := Lib.hid (hr_new (cs := sc66 nv2 bv2 M2 sh2) g3)
            clear g3 hone2
            go_wp2_with fail
            exact bodyPost_ret (res_66t rfl _ _ (w.heap.size + 2) rfl rfl HFIN.out) rfl ⟨_, by rw [hr]; rfl, HBF.out, Or.inr ⟨hr, by rw [HDO.out]; exact HD2.out⟩⟩
      · obtain rfl : j = 8 := by omega
        have hal : ¬ A.others g := fun ⟨k, h1, h2, h3⟩ => (HNO.out k h1).elim h2 (fun h => h h3)
        have HCA := Lib.hid (change_alone hal HID.out b2)
        clear hal HNO
        have hgI : (g : Int) < 8 := by omega
        have hng := own_name HNr.out hg8 (id_names HA.out (n := (g : Int)) (by omega) hgI)
        rw [HID.out, show numN (some i) = (i : Int) from rfl] at hng
        have hil := (List.getElem?_eq_some_iff.1 HBI.out).1
        have hilN : i < n2 := by have := HN2.out; omega
        have hilI : (i : Int) < (n2 : Int) := by omega
        obtain ⟨qs, hqs⟩ := HBSr.out.own
        rw [← HN2.out] at hqs
        have hpq : p ≠ q := own_ne HNr.out hqs (by decide)
        have hqC : C ≤ q := (own_block hqs rfl).1
        have hq8 : p8 ≠ q := by omega
        go_upto_region 27 with (fail)
        refine wp_region_held_drew (S := Kept [q] wr) mixed (Kept.drew [q] wr) (fun hS => ?_)
        have hd0 : w.heap.size ∉ [q] := by simp; omega
        have hd1 : w.heap.size + 1 ∉ [q] := by simp; omega
        have hdp : p ∉ [q] := by simpa using hpq
        have hd8 : p8 ∉ [q] := by simpa using hq8
        refine hk3 (i := 0) rfl (by kernel_rfl) Zh hS rfl (fun K hK => ?_); go_simp; refine hK _ ?_; clear hK K; try simp only [Zq]
        (refine hv3 (i := 1) rfl (by kernel_rfl) Zg hS rfl (fun w' hw' => ex_one rfl (one64 (hw'.cell a1 hd0))) ?_; try simp only [Zy])
        refine hk3 (i := 2) rfl (by kernel_rfl) Zh hS rfl (fun K hK => ?_); go_simp; refine hK _ ?_; clear hK K; try simp only [Zq]
        (refine hv3 (i := 3) rfl (by kernel_rfl) Zg hS rfl (fun w' hw' => ex_one rfl (one63 (hw'.cell a0 hd0))) ?_; try simp only [Zy])
        refine hk3 (i := 4) rfl (by kernel_rfl) Zh hS rfl (fun K hK => ?_); go_simp; refine hK _ ?_; clear hK K; try simp only [Zq]
        (refine hv3 (i := 5) rfl (by kernel_rfl) Zg hS rfl (fun w' hw' => ex_one rfl (one3 (hw'.cell x1 hd1))) ?_; try simp only [Zy])
        refine hk3 (i := 6) rfl (by kernel_rfl) Zh hS rfl (fun K hK => ?_); go_simp; refine hK _ ?_; clear hK K; try simp only [Zq]
        (refine hv3 (i := 7) rfl (by kernel_rfl) Zg hS rfl (fun w' hw' => ex_one rfl (one3 (hw'.cell hng hdp))) ?_; try simp only [Zy])
        (refine hv3 (i := 8) rfl (by kernel_rfl) Zg hS rfl (fun w' hw' => ex_row rfl (rowR (hw'.look H8.out hd8))) ?_; try simp only [Zy])
        refine hk3 (i := 9) rfl (by kernel_rfl) Zh hS rfl (fun K hK => ?_); go_simp; refine hK _ ?_; clear hK K; try simp only [Zq]
        have hth : wr.drew.there q (i * 6) (rcells lv5 b2.seed kv5 vv5 uv5 (isD b2)).size := own_there6 (size := 6) (own_below hqs (Below.refl _ wr).drew) hilN
        refine ha_storeM (i := 10) (by kernel_rfl) rfl rfl 105 _ _ rfl q (i * 6) (rcells lv5 b2.seed kv5 vv5 uv5 (isD b2)) rfl rfl hth info105 (HR5r.out.one b2.seed (isD b2)) (Nm.Kept.setCells (by simp) _ _ _ hS) (fun hS => ?_); try simp only [Zy]
        refine wpAnyH_done (by kernel_rfl) ?_ _
        rw [put_noneA]
        have HBSd := HBSr.out.below (Below.refl _ wr).drew
        rw [HN2.out] at HBSd
        have HB9 := Lib.hid (HBSd.put hil (HR5r.out.below (Below.refl _ wr).drew) HNA.out)
        rw [← HN2.out] at HB9
        have g1 := hS.look G1.out hd0
        have g3 := hS.look G3.out (show w.heap.size + 2 ∉ [q] by simp; omega)
        have HN9 := Lib.hid (own_same HNr.out (fun x hx hx2 => hS.block x hx (by have : p = x := Option.some.inj hx2; subst this; exact hdp)))
        have hb := HBr.out.trans (hS.toBelow (B := w.heap.size) HBr.out.size (by simp; omega))
        have HDO : Hid (doA A o = { A with bufs := A.bufs.set i b2 }) := Lib.hid (by rw [HDX.out, HCA.out])
        clear hS hth HBSd HNr HBSr HR5r HBr G1 G2 G3 H8 x0 x1 a0 a1 a2 a3 hng hqs HDX HCA hd0 hd1 hdp hd8 HNA
        generalize wr.drew.setCells q (i * 6) (rcells lv5 b2.seed kv5 vv5 uv5 (isD b2)).toList = w9 at *
        obtain ⟨ys, hys⟩ := HB9.out.own
        have hone2 := sc66_one HN9.out hys M sh
        have HBF := Lib.hid (below_setRow hb (g := w.heap.size + 2) (by omega) (sc66 (.slice (some ⟨p, 0, none⟩) 8 c) (.slice (some ⟨q, 0, none⟩) n2 cap) M sh))
        have HD2 : Hid (DAt (w9.setRow (w.heap.size + 2) (sc66 (.slice (some ⟨p, 0, none⟩) 8 c) (.slice (some ⟨q, 0, none⟩) n2 cap) M sh)) w.heap.size (.agg (sc66 (.slice (some ⟨p, 0, none⟩) 8 c) (.slice (some ⟨q, 0, none⟩) n2 cap) M sh)) { A with bufs := A.bufs.set i b2 }) := Lib.hid ⟨_, _, by rw [HMS.out.1, HMS.out.2]; unfold Sto.made; rw [List.length_set], own_weak (own_rowT HN9.out g3 (by decide) _) (by omega), (HB9.out.rowT g3 (by decide) (by decide) (by decide) (by decide) _).weak (by omega)⟩
        clear HN9 HB9 hb hys
        go_upto_region 28 with (fail)
        apply wp_region_lit
        ((with_reducible apply wl_rowG); exact rfl; exact rfl; exact rowS g1); try simp only [Zy]
        refine wl_putG (w.heap.size + 2) (sc66 (.slice (some ⟨p, 0, none⟩) 8 c) (.slice (some ⟨q, 0, none⟩) n2 cap) M sh) rfl rfl 66 _ g3 info66 rfl (hone2) ?_
        rw [put_noneA]
        have HFIN := Lib.hid (hr_new (cs := sc66 (.slice (some ⟨p, 0, none⟩) 8 c) (.slice (some ⟨q, 0, none⟩) n2 cap) M sh) g3)
        clear g1 g3 hone2
        go_wp2_with fail
        exact bodyPost_ret (res_66t rfl _ _ (w.heap.size + 2) rfl rfl HFIN.out) rfl ⟨_, by rw [hr]; rfl, HBF.out, Or.inr ⟨hr, by rw [HDO.out]; exact HD2.out⟩⟩
/-- the document's Do, whatever the operation -/
theorem DoI_any (v : Value) (A : Sto) (B : Nat) (hA : Good A) (hm : A.bufs.length ≤ 10000) (hs0 : 0 ≤ A.shared) (hs1 : A.shared ≤ 100000) (o : OpV) (w : World) (h : DAt w B v A) :
    Calls Try.prog 39 #[v, .agg o.cells] w (DoIPost v A o w) := by
  by_cases hr : refA A o = 0
  · rcases formS_kind (ref_form hr) with hk | hk | hk | hk | hk | hk | hk | hk | hk | hk | hk
    · exact DoI_make v A B hA hm o hk hr w h
    · exact DoI_copy v A B hA hm o hk hr w h
    · exact DoI_change v A B hA hm hs0 hs1 o (by simp [hk]) hr w h
    · exact DoI_change v A B hA hm hs0 hs1 o (by simp [hk]) hr w h
    · exact DoI_change v A B hA hm hs0 hs1 o (by simp [hk]) hr w h
    · exact DoI_slice v A B hA hm o hk hr w h
    · exact DoI_change v A B hA hm hs0 hs1 o (by simp [hk]) hr w h
    · exact DoI_table v A B hA hm o hk hr w h
    · exact DoI_change v A B hA hm hs0 hs1 o (by simp [hk]) hr w h
    · exact DoI_change v A B hA hm hs0 hs1 o (by simp [hk]) hr w h
    · exact DoI_keys v A B hA hm o hk hr w h
  · exact DoI_err v A B hA o hr w h
end Go.Proofs.Ytbhdgeoljlhmcaa
