/- The law's awake: the chapter's first example holds. The law HeapNil: what a missing heap returns. One call played on a heap. The law HeapOnce: states never fall. The document's Levels, CopyStrings, New. The document's End. Whether two trees are equal (EqType, EqTypes). Whether two values are equal (EqValue, EqValues). The document's Has and later. -/
import Derived.Test.YtpamocglecangaaPD10
import Derived.Test.YtpamocglecangaaPD9
import Derived.Test.YtpamocglecangaaPD2
import Derived.Test.YtpamocglecangaaPD3
import Derived.Test.YtpamocglecangaaPD4
import Derived.Test.YtpamocglecangaaPD8
import Derived.Test.YtpamocglecangaaPD1
set_option maxHeartbeats 16000000
set_option maxRecDepth 100000
namespace Go.Proofs.Ytpamocglecangaa
open Go.RowKit Go.Proofs.Ytpamocglecangaa.Nm
set_option linter.unusedSimpArgs false
theorem Done.below {w w1 w' : World} {G1 G' : Gh} {k p : Nat} {h' : Hp} (hb : Below w.heap.size w w1) (hg : ∀ b, b < w.heap.size -> G1 b = none) (d : Done w1 G1 k p h' w' G') : Below w.heap.size w w' :=
 ⟨d.keep.os.trans hb.os, d.keep.tape.trans hb.tape, d.keep.output.trans hb.output, Nat.le_trans hb.size d.keep.size, fun b hlt => (d.keep.block b (by have := hb.size; omega) (by rintro ⟨r, e, -⟩; rw [hg b hlt] at e; cases e)).trans (hb.block b hlt)⟩
theorem ss_nil (w : World) : SsAt w [] none 0 := ⟨rfl, Nat.zero_le _, fun j s h => by simp at h⟩
def tyC : Ty := .node 6 ⟨#[67]⟩ 0 []
theorem tyC_at (w : World) (D : Nat -> Prop) : TyAt w D tyC (cell4 6 ⟨#[67]⟩ 0 none 0 0) := TyAt.of (by rfl) (by rfl) (by decide) (TysAt.nil w D)
theorem built32c : Try.prog.built 32 [(0, .int .i64 6), (1, .string ⟨#[67]⟩)] = some (cell4 6 ⟨#[67]⟩ 0 none 0 0) := by kernel_rfl
def aw1 : Hp := ⟨[], [⟨tyC, 1, 1, 0, []⟩], [], []⟩
def awV : Va := .node 7 0 ⟨#[]⟩ zeroTy [] []
def aw2 : Hp := ⟨[], [⟨tyC, 1, 2, 0, []⟩], [], []⟩
def aw3 : Hp := ⟨[], [⟨tyC, 1, 2, 0, []⟩], [], [[.val awV]]⟩
theorem aw_make : makeP (hp0 []) tyC [] = (aw1, awV) := rfl
theorem aw_copy : copyP aw1 awV = (aw2, awV, 0) := by
 have e1 : ofV aw1.obs.length aw1.bus.length awV = true := by rw [ofV_eq]; rfl
 have e2 : deadV aw1 awV = false := by rw [deadV_eq]; rfl
 unfold copyP
 rw [e1, e2, cntV_eq]
 rfl
theorem aw_end : endP aw2 awV = (aw3, 0) := by
 have e1 : ofV aw2.obs.length aw2.bus.length awV = true := by rw [ofV_eq]; rfl
 have e2 : deadV aw2 awV = false := by rw [deadV_eq]; rfl
 unfold endP
 rw [e1, e2]
 rfl
theorem aw_step : stepV' aw3 [] (.val awV) = ({ aw1 with lev := [[.val awV]] }, [], none) := rfl
theorem aw_next : nextP aw3 = (aw1, va0, false) := by
 have h0 : ∃ m, weight aw3 [.val awV] = m + 1 := ⟨weight aw3 [.val awV] - 1, by
  have := weight_len (h := aw3) (ts := []) (t := .val awV)
  have := wT_pos aw3 (.val awV)
  simp only [List.nil_append] at *
  omega⟩
 obtain ⟨m, hm⟩ := h0
 have h1 : runN (weight aw3 [.val awV]) aw3 [.val awV] = ({ aw1 with lev := [[.val awV]] }, [], none) := by
  rw [hm]
  have := runN_snoc m aw3 [] (.val awV)
  rw [List.nil_append] at this
  rw [this, aw_step]
  exact runN_nil m _
 have h2 : aw3.lev.getLast? = some [.val awV] := rfl
 unfold nextP
 rw [h2]
 simp only [h1]
 rfl
theorem aw_wf : Wf aw3 where
 fld := fun o ho u hu => by
  rcases List.mem_cons.1 ho with e | e
  ·rw [e] at hu; cases hu
  ·cases e
 elm := fun b hb => by cases hb
 tsk := fun ts hts t ht => by
  rcases List.mem_cons.1 hts with e | e
  ·rw [e] at ht
   rw [List.mem_singleton.1 ht]
   exact ⟨fun v e => by cases e; rw [ofV_eq]; rfl, fun o i e => by cases e⟩
  ·cases e
theorem aw_wt : ∀ l, aw3.lev.getLast? = some l -> weight aw3 l <= 700000000000 := fun l hl => by
 have e : l = [.val awV] := by
  have h2 : aw3.lev.getLast? = some [.val awV] := rfl
  rw [h2] at hl; cases hl; rfl
 have h1 : wV awV = 1 := by rw [wV_eq]; rfl
 rw [e]
 unfold weight
 simp [aw3, sumN, wT, wO, h1, wVs]
theorem aw_fl : ∀ o, o ∈ aw3.obs -> o.fields.length <= 1000000000 := fun o ho => by
 rcases List.mem_cons.1 ho with e | e
 ·rw [e]; exact Nat.zero_le _
 ·cases e
theorem awake_any {w : World} : Calls Try.prog 10 #[] w fun e w' => e = .returned (.bool true) /\ Below w.heap.size w w' := by
 have hzs : zrow.size = 9 := rfl
 have HC := Zi (New_any (w := w) (G := fun _ => none) 0 (fun _ _ => rfl) (c := 0) (ss_nil w))
 go_enter Try.func10, Try.ntmps10
 go_upto_region 0 with fail
 apply Zl
 refine Zm ?_
 go_upto_region 1 with fail
 apply Zl
 refine Zn HC.out ?_; rintro e w1 ⟨p, G1, rfl, hh, hf, hg1, hg2, hb⟩; refine ⟨_, rfl, ?_⟩; simp only [Zq]
 refine Zm ?_
 clear HC
 have HB := Zi hb
 have HG := Zi hg1
 have HDn := Zi (Done.calm hh hf (Below.refl _ w1))
 clear hh hf hg1 hg2 hb
 have hmk := Make_any HDn.out.heap HDn.out.fr (by show 0 <= 1000000; omega) (tyC_at w1 (Imm G1)) (VsAt.nil w1 (Imm G1)) (by omega)
 rw [aw_make] at hmk
 have HC := Zi hmk
 clear hmk
 go_upto_region 2 with fail
 apply Zl
 refine Zm ?_
 refine wl_w rfl (ex_build 32 _ rfl (by simp only [List.map_cons, List.map_nil]; rfl) built32c) ?_
 simp only [Zq]
 refine Zn HC.out ?_; rintro e w2 ⟨G2, row, rfl, hva, hd2⟩; refine ⟨_, rfl, ?_⟩; simp only [Zq]
 clear HC
 have hvs := hva.size
 have hv1 := hva.one
 have hzz := Below.refl w2.heap.size w2
 (with_reducible refine wl_allV ?_); intro W3 q3 hbn hlq3 hq3; replace hzz := hzz.trans (hbn.mono hzz.size); clear hbn; simp only [Zq]
 (with_reducible refine wl_putV hvs hv1 hzs rfl rfl hq3 ?_); rw [put_noneA]; intro W4 hbx hsz hkx hnx
 replace hzz := hbx _ _ (by omega) hzz
 clear hq3
 have hq3 := hnx
 clear hnx hbx hkx hsz
 replace HDn := Zi ((HDn.out.trans hd2).quiet hzz)
 have HV := Zi (hva.old hzz)
 have hqw : q3 < W4.heap.size := heap_lt hq3
 have HQW := Zi hqw
 have HQ3 : Hid (¬ Mine G2 0 q3) := Zi (by rintro ⟨z, e, -⟩; rw [hd2.fr q3 (by omega)] at e; cases e)
 clear hd2 hzz hva hqw hlq3
 have hcp := Copy_any HDn.out.heap HDn.out.fr HV.out
 rw [aw_copy] at hcp
 have HC := Zi hcp
 clear hcp
 go_upto_region 3 with fail
 apply Zl
 refine Zm ?_
 refine Zw rfl (row35 hq3 hvs) ?_
 refine Zn HC.out ?_; rintro e w5 ⟨G3, row3, rfl, hva3, hd3⟩; refine ⟨_, rfl, ?_⟩; simp only [Zq]
 clear HC
 replace HV := Zi (hd3.va HV.out)
 replace hq3 := hd3.look hq3 HQ3.out
 have hvs3 := hva3.size
 have hv13 := hva3.one
 have hql3 := heap_lt hq3
 iterate 3 refine Zm ?_
 have hzz := Below.refl w5.heap.size w5
 (with_reducible refine wl_allV ?_); intro W6 q6 hbn hlq6 hq6; replace hzz := hzz.trans (hbn.mono hzz.size); clear hbn; simp only [Zq]
 (with_reducible refine wl_putV hvs3 hv13 hzs rfl rfl hq6 ?_); rw [put_noneA]; intro W7 hbx hsz hkx hnx
 replace hzz := hbx _ _ (by omega) hzz
 clear hq6 hnx hbx hkx hsz hlq6
 have HQ4 : Hid (¬ Mine G3 0 q3) := Zi (by
  rintro ⟨z, e, h5⟩
  rw [hd3.old q3 HQW.out] at e
  exact HQ3.out ⟨z, e, h5⟩)
 replace HDn := Zi ((HDn.out.trans hd3).quiet hzz)
 replace HV := Zi (HV.out.old hzz)
 replace hq3 := below_look hzz hq3
 clear hd3 hzz hql3 hva3
 refine Zm ?_
 have hen := End_any HDn.out.heap HDn.out.fr (by show 0 <= 1000000; omega) HV.out
 rw [aw_end] at hen
 have HC := Zi hen
 clear hen
 go_upto_region 4 with fail
 apply Zl
 refine Zm ?_
 refine Zw rfl (row35 hq3 hvs) ?_
 refine Zn HC.out ?_; rintro e w8 ⟨G4, rfl, hd4⟩; refine ⟨_, rfl, ?_⟩; simp only [Zq]
 clear HC
 replace HDn := Zi (HDn.out.trans hd4)
 clear hd4 HV hq3 HQ4 HQ3 HQW
 refine Zm ?_
 have hnx := Next_any HDn.out.heap HDn.out.fr aw_wf aw_wt aw_fl
 rw [aw_next] at hnx
 have HC := Zi hnx
 clear hnx
 go_upto_region 5 with fail
 apply Zl
 refine Zm ?_
 refine Zn HC.out ?_; rintro e w9 ⟨G5, row5, rfl, hva5, hd5⟩; refine ⟨_, rfl, ?_⟩; simp only [Zq]
 clear HC
 have hvs5 := hva5.size
 have hv15 := hva5.one
 iterate 3 refine Zm ?_
 have hzz := Below.refl w9.heap.size w9
 (with_reducible refine wl_allV ?_); intro W10 q10 hbn hlq10 hq10; replace hzz := hzz.trans (hbn.mono hzz.size); clear hbn; simp only [Zq]
 (with_reducible refine wl_putV hvs5 hv15 hzs rfl rfl hq10 ?_); rw [put_noneA]; intro W11 hbx hsz hkx hnx
 replace hzz := hbx _ _ (by omega) hzz
 clear hq10 hnx hbx hkx hsz hlq10
 replace HDn := Zi ((HDn.out.trans hd5).quiet hzz)
 clear hd5 hzz hva5
 refine Zm ?_
 have HC := Zi (Objects_any HDn.out.heap (by show 1 <= 1000000; omega) (fun o ho => by
  rcases List.mem_cons.1 ho with e | e
  ·rw [e]; exact Nat.zero_le _
  ·cases e))
 go_upto_region 6 with fail
 apply Zl
 refine Zm ?_
 refine Zn HC.out ?_; rintro e w12 ⟨q6, c6, rows6, rfl, ho6, hl6, hq6, hf6, hb6⟩; refine ⟨_, rfl, ?_⟩; simp only [Zq]
 clear HC
 have hr0 : ∃ r0, rows6[0]? = some r0 := ⟨_, List.getElem?_eq_getElem (by rw [hl6]; exact Nat.zero_lt_one)⟩
 obtain ⟨r0, hr0⟩ := hr0
 obtain ⟨tr, fA, fc, frows, er, htr, -⟩ := hf6 0 _ r0 rfl hr0
 have hc8 := cell8_at htr.size 1 1 0 fA 0 fc
 have e4 : OneAt w12 3 ⟨q6, 4, none⟩ (.int .i64 1) := by
  have := ho6.cell hr0 (j := 4) (by rw [er]; exact hc8.2.1)
  exact one_of u3 rfl (by simpa using this)
 have e5 : OneAt w12 3 ⟨q6, 5, none⟩ (.int .i64 1) := by
  have := ho6.cell hr0 (j := 5) (by rw [er]; exact hc8.2.2.1)
  exact one_of u3 rfl (by simpa using this)
 replace HDn := Zi (HDn.out.quiet hb6)
 clear ho6 hl6 hf6 hb6 hr0 er htr hc8
 refine Zm ?_
 go_upto_region 7 with fail
 have hl1 : aw1.obs.length = 1 := rfl
 rw [hl1]
 apply Zl
 iterate 19 refine Zm ?_
 refine Zo rfl (e5) ?_
 iterate 6 refine Zm ?_
 refine Zo rfl (e4) ?_
 iterate 3 refine Zm ?_
 go_wp2_with fail
 go_ret
 exact ⟨rfl, Done.below HB.out HG.out HDn.out⟩
section
variable {w w' : World} {D : Nat -> Prop} {q : Cl} {row rv rx tr : Array Value} {A : Option Addr} {l c p : Nat} {t : TypeId} {fr : Nat × Nat}
theorem cl_v (hp : w.heap[p]? = some (.cells row t fr)) (h : Hid (ClAt w' D q row rv rx tr A l c)) : RowAt w 35 ⟨p, 3, none⟩ rv := row_mid (n := 9) hp h.out.cells.2.2.2.1 u35 rfl h.out.v.size info35
theorem cl_x (hp : w.heap[p]? = some (.cells row t fr)) (h : Hid (ClAt w' D q row rv rx tr A l c)) : RowAt w 35 ⟨p, 12, none⟩ rx := row_mid (n := 9) hp h.out.cells.2.2.2.2.1 u35 rfl h.out.x.size info35
theorem cl_t (hp : w.heap[p]? = some (.cells row t fr)) (h : Hid (ClAt w' D q row rv rx tr A l c)) : RowAt w 32 ⟨p, 21, none⟩ tr := row_mid (n := 4) hp h.out.cells.2.2.2.2.2.1 u24 rfl h.out.t.size info24
theorem cl_l (hp : w.heap[p]? = some (.cells row t fr)) (h : Hid (ClAt w' D q row rv rx tr A l c)) : OneAt w 33 ⟨p, 25, none⟩ (.slice A l c) := one_of u33 rfl (by rw [cell_of_row _ _ _ _ _ _ hp]; exact h.out.cells.2.2.2.2.2.2)
theorem cl_k (hp : w.heap[p]? = some (.cells row t fr)) (h : Hid (ClAt w' D q row rv rx tr A l c)) : OneAt w 3 ⟨p, 0, none⟩ (.int .i64 q.k) := one_of u3 rfl (by rw [cell_of_row _ _ _ _ _ _ hp]; exact h.out.cells.1)
theorem cl_a (hp : w.heap[p]? = some (.cells row t fr)) (h : Hid (ClAt w' D q row rv rx tr A l c)) : OneAt w 3 ⟨p, 1, none⟩ (.int .i64 q.a) := one_of u3 rfl (by rw [cell_of_row _ _ _ _ _ _ hp]; exact h.out.cells.2.1)
theorem cl_b (hp : w.heap[p]? = some (.cells row t fr)) (h : Hid (ClAt w' D q row rv rx tr A l c)) : OneAt w 3 ⟨p, 2, none⟩ (.int .i64 q.b) := one_of u3 rfl (by rw [cell_of_row _ _ _ _ _ _ hp]; exact h.out.cells.2.2.1)
end
theorem run_box37 (row : Array Value) (w : World) : (Instr.box 37 (.agg row)).run Try.prog w = .ok (.pointer (some ⟨w.heap.size, 0, none⟩)) (w.alloc (.cells row 37)) := by kernel_rfl
theorem ex_box37 {ev : Operand -> Value} {o : Oper} {w : World} (x : Operand) (ho : o.op = .box 37 x) {row : Array Value} (hx : ev x = .agg row) :
  (execOp ev o).run Try.prog w = .ok (.value (.pointer (some ⟨w.heap.size, 0, none⟩))) (w.alloc (.cells row 37)) := by
 unfold execOp
 simp [ho, hx, run_box37 row w, Result.andThen]
theorem ClsAt.one {w : World} {D : Nat -> Prop} {q : Cl} {row rv rx tr : Array Value} {A : Option Addr} {l c b : Nat} {fr : Nat × Nat} {t : TypeId} (hb : w.heap[b]? = some (.cells row t fr)) (h : ClAt w D q row rv rx tr A l c) (hD : D b) : ClsAt w D [q] (some ⟨b, 0, none⟩) 1 1 :=
 ⟨rfl, Nat.le_refl _, by unfold maxLen; omega, fun i q' hi => by
  match i, hi with
  | 0, hi =>
   cases hi
   exact ⟨b, 0, row, t, fr, row, rv, rx, tr, A, l, c, rfl, hD, hb, (by have := h.size; simp [<- this]), h⟩⟩
open Go.RowKit Go.Proofs.Ytpamocglecangaa.Nm
set_option linter.unusedSimpArgs false
theorem ClAt.old {w w' : World} {D : Nat -> Prop} {q : Cl} {row rv rx tr : Array Value} {A : Option Addr} {l c : Nat} (h : ClAt w D q row rv rx tr A l c) (hb : Below w.heap.size w w') : ClAt w' D q row rv rx tr A l c := h.mono (fun _ h => h) fun b _ hl => hb.block b hl
theorem SsAt.below {w w' : World} {l : List ByteArray} {A : Option Addr} {n : Nat} (h : SsAt w l A n) (hb : Below w.heap.size w w') : SsAt w' l A n := ⟨h.len, h.max, fun j s hj => by
 obtain ⟨b, off, e1, e2⟩ := h.el j s hj
 refine ⟨b, off, e1, ?_⟩
 have hl : b < w.heap.size := by
  rcases Nat.lt_or_ge b w.heap.size with h1 | h1
  ·exact h1
  ·unfold World.cell? at e2
   rw [Array.getElem?_eq_none h1] at e2
   simp at e2
 unfold World.cell? at e2 ⊢
 rw [hb.block b hl]; exact e2⟩
theorem OwnL.lt {w : World} {ty : TypeId} {sz : Nat} {A : Option Addr} {c : Nat} {rows : List (Array Value)} (h : OwnL w ty sz A c rows) {g : Nat} (e : A = some ⟨g, 0, none⟩) : g < w.heap.size := by
 rcases h.el with ⟨e1, -, -⟩ | ⟨g', cur, e1, e2, -⟩
 ·rw [e1] at e; cases e
 ·rw [e1] at e; cases e; exact heap_lt e2
theorem dLevels_any {G : Gh} {k p nr : Nat} {h : Hp} {w : World} (hh : DHeapAt w G k p h nr) : Calls Try.prog 57 #[.pointer (some ⟨p, 0, none⟩)] w fun e w' => e = .returned (.int .i64 (h.lev.length : Int)) /\ Below w.heap.size w w' := by
 obtain ⟨dA, dc, oA, oc, bA, bc, lA, lc, rA, rc, hh⟩ := hh
 have hp := hh.blk
 have hb := Below.refl w.heap.size w
 clear hh
 go_enter Try.func57, Try.ntmps57
 go_upto_region 0 with fail
 apply Zl
 refine Zm ?_
 go_upto_region 1 with fail
 apply Zl
 iterate 3 refine Zm ?_
 refine Zo rfl (dh3 hp) ?_
 iterate 2 refine Zm ?_
 go_wp2_with fail
 go_ret
 exact ⟨rfl, hb⟩
theorem info9b : (Try.prog.info? 9).map (fun i => (i.zero, i.size, i.bytes)) = some (some (.string ⟨#[]⟩), 1, 16) := by kernel_rfl
theorem elt22 : Elt 22 9 1 16 #[.string ⟨#[]⟩] := by obtain ⟨i, a, b, c, d⟩ := info_parts info9b; exact ⟨u22d, by decide, rfl, i, _, a, b, c, d, rfl⟩
theorem run_bsStr (s : ByteArray) (w : World) : (Instr.buildSlice 22 1 #[(0, .string s)]).run Try.prog w = .ok (.slice (some ⟨w.heap.size, 0, none⟩) 1 1) (w.alloc (.cells #[.string s] 9)) := by kernel_rfl
theorem ex_bsStr {ev : Operand -> Value} {o : Oper} {w : World} (y : Operand) (ho : o.op = .buildSlice 22 1 #[(0, y)]) {s : ByteArray} (hx : ev y = .string s) :
  (execOp ev o).run Try.prog w = .ok (.value (.slice (some ⟨w.heap.size, 0, none⟩) 1 1)) (w.alloc (.cells #[.string s] 9)) := by
 unfold execOp
 have := run_bsStr s w
 simp [ho, hx, this, Result.andThen]
def sRows (l : List ByteArray) : List (Array Value) := l.map fun s => #[.string s]
theorem u9d : Try.prog.underlying 9 = some .string := by kernel_rfl
theorem CopyStrings_any {w : World} {l : List ByteArray} {A : Option Addr} {n c : Nat} (h : SsAt w l A n) (hn : n <= 1000000) : Calls Try.prog 43 #[.slice A n c] w fun e w' => ∃ A' c', e = .returned (.slice A' n c') /\ OwnL w' 9 1 A' c' (sRows l) /\ (∀ g, A' = some ⟨g, 0, none⟩ -> w.heap.size <= g) /\ Below w.heap.size w w' := by
 have HS := Zi h
 have HL := Zi h.len
 have hb := Below.refl w.heap.size w
 clear h
 go_enter Try.func43, Try.ntmps43
 go_upto_region 0 with fail
 apply Zl
 refine Zm ?_
 go_upto_region 1 with fail
 apply Zl
 iterate 2 refine Zm ?_
 refine wl_makeL elt22 rfl _ _ rfl (n := 0) (c := n) rfl rfl (Nat.zero_le _) (by omega) (by unfold maxLen; omega) ?_
 intro W q hbn hlq hlt hown
 have HO : Hid (OwnL W 9 1 (some ⟨q, 0, none⟩) n (sRows (l.take 0))) := Zi (by simpa [sRows] using hown)
 simp only [Zq]
 replace hb := hb.trans (hbn.mono hb.size)
 clear hbn hown
 refine Zm ?_
 go_upto_region 2 with fail
 apply Zl
 refine Zm ?_
 go_wp2_with fail
 go_loopw [3, 4] (fun s i wr => ∃ (j : Nat) (A9 : Option Addr) (c9 : Nat), j <= n /\ s = .slice A9 j c9 /\ i = .int .i64 (j : Int) /\ Hid (OwnL wr 9 1 A9 c9 (sRows (l.take j))) /\ Hid (∀ g, A9 = some ⟨g, 0, none⟩ -> w.heap.size <= g) /\ Below w.heap.size w wr) (fun _ i _ => n - (intOf i).toNat)
 case atStart => exact ⟨0, _, _, by omega, rfl, rfl, HO, Zi (fun g e => by cases e; omega), hb⟩
 case round =>
  clear hb HO hlq hlt
  obtain ⟨j, A9, c9, hj, rfl, rfl, HO, HA, hb⟩ := hrel
  go_upto_region 3 with fail
  by_cases hlt : j < n
  ·have hltI : (j : Int) < (n : Int) := by omega
   have hjl : j < l.length := by rw [HL.out]; exact hlt
   have hs := List.getElem?_eq_getElem hjl
   obtain ⟨s, hse⟩ : ∃ s, s = l[j] := ⟨_, rfl⟩
   rw [<- hse] at hs
   obtain ⟨b, off, rfl, hcell⟩ := (HS.out.below hb).el j s hs
   have HLD := Zi (one_of u9d rfl hcell)
   have HRR : Hid (sRows (l.take j) ++ [#[.string s]] = sRows (l.take (j + 1))) := Zi (by rw [List.take_add_one, hs]; simp [sRows])
   have HRL : Hid ((sRows (l.take j)).length = j) := Zi (by simp [sRows]; omega)
   clear hs hse hcell hjl
   apply Zl
   iterate 4 refine Zm ?_
   go_upto_region 5 with fail
   apply Zl
   iterate 4 refine Zm ?_
   refine Zo rfl (HLD.out) ?_
   refine wl_newv (fun q => .slice (some ⟨q, 0, none⟩) 1 1) rfl (ex_bsStr _ rfl rfl) ?_
   intro W8 q8 hbn hlq8 hq8
   simp only [Zq]
   replace HO := Zi (HO.out.old hbn)
   have hb8 := hb.trans (hbn.mono hb.size)
   clear hbn
   refine wl_pushL elt22 rfl _ _ rfl (show _ = Value.slice A9 (sRows (l.take j)).length c9 by rw [HRL.out]; rfl) rfl HO.out hq8 rfl (by simp [Value.oneCell']) (by have := HRL.out; omega) (by have := HRL.out; unfold maxLen; omega) ?_
   rw [HRL.out]
   intro A' c' W9 hown hk9 hA9
   have hb9 := Below.keep hb8 hk9 (fun b e => HA.out b e)
   have HA' : Hid (∀ g, A' = some ⟨g, 0, none⟩ -> w.heap.size <= g) := Zi (fun g e => by
    rcases hA9 with e2 | ⟨g', e2, e3⟩
    ·exact HA.out g (by rw [<- e2]; exact e)
    ·rw [e] at e2; cases e2; have := hb8.size; omega)
   rw [HRR.out] at hown
   have HO9 := Zi hown
   clear hown hk9 hA9 HO HA hb hb8 hq8
   simp only [Zq]
   refine Zm ?_
   go_wp2_with fail
   go_roundw
   case rel => exact ⟨j + 1, A', c', by omega, rfl, by go_num, HO9, HA', hb9⟩
   case measure => simp [intOf]; omega
  ·have hltI : ¬ (j : Int) < (n : Int) := by omega
   have hjn : j = n := by omega
   subst hjn
   have HO2 : Hid (OwnL wr 9 1 A9 c9 (sRows l)) := Zi (by have := HO.out; rwa [List.take_of_length_le (by rw [HL.out]; omega)] at this)
   apply Zl
   iterate 4 refine Zm ?_
   go_upto_region 6 with fail
   apply Zl
   iterate 2 refine Zm ?_
   go_wp2_with fail
   go_ret
   exact ⟨A9, c9, rfl, HO2.out, HA.out, hb⟩
def newD (G : Gh) (k p : Nat) : Gh := fun b => if b = p then some (k, .hdr) else G b
def DNewHp (w : World) (G : Gh) (k : Nat) (dei : List ByteArray) (e : Ending) (w' : World) : Prop := ∃ p G', e = .returned (.pointer (some ⟨p, 0, none⟩)) /\ DHeapAt w' G' k p (hp0 dei) 0 /\ Fr w' G' /\ (∀ b, b < w.heap.size -> G' b = G b) /\ (∀ b, w.heap.size <= b -> G' b = none ∨ ∃ r, G' b = some (k, r)) /\ Below w.heap.size w w'
theorem built92 (A : Option Addr) (l c : Nat) : Try.prog.built 92 [(0, .slice A l c)] = some (cellD A l c none 0 0 none 0 0 none 0 0 none 0 0) := by kernel_rfl
theorem run_box92 (A : Option Addr) (l c : Nat) (w : World) : (Instr.box 92 (.agg (cellD A l c none 0 0 none 0 0 none 0 0 none 0 0))).run Try.prog w = .ok (.pointer (some ⟨w.heap.size, 0, none⟩)) (w.alloc (.cells (cellD A l c none 0 0 none 0 0 none 0 0 none 0 0) 92)) := by kernel_rfl
theorem dNew_any {w : World} {G : Gh} (k : Nat) (hf : Fr w G) {l : List ByteArray} {A : Option Addr} {n c : Nat} (h : SsAt w l A n) (hn : n <= 1000000) : Calls Try.prog 14 #[.slice A n c] w (DNewHp w G k l) := by
 have HF := Zi hf
 have HL := Zi h.len
 have HC := Zi (CopyStrings_any (c := c) h hn)
 clear h hf
 go_enter Try.func14, Try.ntmps14
 go_upto_region 0 with fail
 apply Zl
 refine Zm ?_
 go_upto_region 1 with fail
 apply Zl
 refine Zm ?_
 refine Zn HC.out ?_; rintro e w7 ⟨A7, c7, rfl, ho7, hA7, hb7⟩; refine ⟨_, rfl, ?_⟩; simp only [Zq]
 refine wl_w rfl (ex_build 92 _ rfl (by simp only [List.map_cons, List.map_nil]; rfl) (built92 A7 n c7)) ?_
 simp only [Zq]
 refine wl_newv (fun q => .pointer (some ⟨q, 0, none⟩)) rfl (cs := cellD A7 n c7 none 0 0 none 0 0 none 0 0 none 0 0) (ty := 92) (by
  unfold execOp
  have := run_box92 A7 n c7 w7
  simp [Act.eval, this, Result.andThen]) ?_
 intro W2 p hbn hlp hp
 simp only [Zq]
 refine Zm ?_
 have hb2 := hb7.trans (hbn.mono hb7.size)
 have hsz := hb7.size
 have hpl := heap_lt hp
 have ho2 := ho7.old hbn
 have H0 : Hid (DHeapAt W2 (newD G k p) k p (hp0 l) 0) := Zi (by
  refine ⟨A7, c7, none, 0, none, 0, none, 0, none, 0, ?_, if_pos rfl, ?_, ?_, ?_, ?_, ?_⟩
  ·show _ = some (Obj.cells (cellD A7 l.length c7 none 0 0 none 0 0 none 0 0 none 0 0) 92 (0, 0))
   rw [HL.out]; exact hp
  ·exact ⟨[], OwnL.nil _ _ _, rfl, fun g e => (by cases e), fun i o row _ h => (by simp at h)⟩
  ·exact ⟨[], OwnL.nil _ _ _, rfl, fun g e => (by cases e), fun i o row _ h => (by simp at h)⟩
  ·exact ⟨[], OwnL.nil _ _ _, rfl, fun g e => (by cases e), fun i o row _ h => (by simp at h)⟩
  ·refine ⟨by show l.length <= maxLen; rw [HL.out]; unfold maxLen; omega, fun j s hj => ?_⟩
   have hjl := (List.getElem?_eq_some_iff.1 hj).1
   have hjs : (sRows l)[j]? = some #[.string s] := by
    have hj' : l[j]? = some s := hj
    simp [sRows, hj']
   obtain ⟨g, cur, e, hg, -, -⟩ := ho2.addr (i := j) (List.getElem?_eq_some_iff.1 hjs).1
   subst e
   have hc := ho2.cell hjs (j := 0) (x := .string s) rfl
   rw [Nat.mul_one, Nat.add_zero] at hc
   have hgg := hA7 g rfl
   have hgl : g < w7.heap.size := ho7.lt rfl
   refine ⟨g, 0, rfl, ?_, by rw [Nat.zero_add]; exact hc⟩
   unfold newD
   rw [if_neg (by omega)]
   exact HF.out g hgg
  ·exact ⟨[], OwnL.nil _ _ _, rfl, fun g e => (by cases e)⟩)
 have HB := Zi hb2
 have HP := Zi (And.intro hpl (Nat.le_trans hsz hlp))
 clear hp hbn hb7 ho7 hA7 ho2 hb2 hsz hpl hlp HC
 go_wp2_with fail
 go_ret
 refine ⟨p, newD G k p, rfl, H0.out, fun b hb => ?_, fun b hb => ?_, fun b hb => ?_, HB.out⟩
 ·unfold newD; rw [if_neg (by have := HP.out.1; omega)]; exact HF.out b (by have := HB.out.size; omega)
 ·unfold newD; rw [if_neg (by have := HP.out.2; omega)]
 ·unfold newD
  split
  ·exact .inr ⟨_, rfl⟩
  ·exact .inl (HF.out b hb)
section
variable {w w' : World} {G G' : Gh} {k p nr : Nat} {h : Hp} {dA : Option Addr} {dc : Nat} {oA : Option Addr} {oc : Nat} {bA : Option Addr} {bc : Nat} {lA : Option Addr} {lc : Nat} {rA : Option Addr} {rc : Nat}
theorem DAt.addL (hh : DAt w G k p h nr dA dc oA oc bA bc lA lc rA rc) {rows : List (Array Value)} {ts : List Tk} {tA : Option Addr} {tc : Nat} {A' : Option Addr} {c' : Nat}
  (hl : rows.length = h.lev.length) (hv : ∀ (i : Nat) (ts : List Tk) (row : Array Value), h.lev[i]? = some ts -> rows[i]? = some row -> ∃ tA tc, row = #[.slice tA ts.length tc] /\ DTks w (Imm G) ts tA tc)
  (ho : OwnL w' 102 1 A' c' (rows ++ [#[.slice tA ts.length tc]])) (hk : Keep (fun b => lA = some ⟨b, 0, none⟩) w w') (hor : RoleOf G lA (k, .lar)) (hG : ∀ b, b < w.heap.size -> G' b = G b) (hA : RoleOf G' A' (k, .lar)) (hx : DTks w' (Imm G') ts tA tc) :
  DAt (w'.setCell ⟨p, 3, none⟩ (.slice A' (rows.length + 1) c')) G' k p { h with lev := h.lev ++ [ts] } nr dA dc oA oc bA bc A' c' rA rc := by
 have hpl := heap_lt hh.blk
 have hne : ∀ b r, b < w.heap.size -> G b = some (k, r) -> r ≠ .lar -> w'.heap[b]? = w.heap[b]? := fun b r hb e hr => hk.block b hb fun e2 => by have := hor b e2; rw [e] at this; cases this; exact hr rfl
 have hno : ∀ b, b < w.heap.size -> G b = none -> w'.heap[b]? = w.heap[b]? := fun b hb e => hk.block b hb fun e2 => by have := hor b e2; rw [e] at this; cases this
 have hpn : G' p = some (k, .hdr) := (hG p hpl).trans hh.rp
 have hp7 : w'.heap[p]? = some (.cells (cellD dA h.dei.length dc oA h.obs.length oc bA h.bus.length bc lA h.lev.length lc rA nr rc) 92 (0, 0)) := (hne p _ hpl hh.rp (by simp)).trans hh.blk
 have hset := (dhdr_set (j := 3) (v := .slice A' (rows.length + 1) c') hp7).2.2
 have hso : ∀ b, b ≠ p -> (w'.setCell ⟨p, 3, none⟩ (.slice A' (rows.length + 1) c')).heap[b]? = w'.heap[b]? := fun b hb => heap_setCell_other _ _ _ _ hb
 have hsr : ∀ b r, G' b = some (k, r) -> r ≠ .hdr -> b ≠ p := fun b r e hr e2 => by rw [e2, hpn] at e; cases e; exact hr rfl
 have hsn : ∀ b, G' b = none -> b ≠ p := fun b e e2 => by rw [e2, hpn] at e; cases e
 have hg := hh.regh hG
 refine ⟨?_, hpn, ?_, ?_, ?_, ?_, ?_⟩
 ·rw [hset, hl]
  show _ = some (Obj.cells (cellD dA h.dei.length dc oA h.obs.length oc bA h.bus.length bc A' (h.lev ++ [ts]).length c' rA nr rc) 92 (0, 0))
  rw [List.length_append]; rfl
 ·exact hg.obs.same (fun b hb e => by
   rcases e with e | ⟨i, e⟩ <;> (rw [hso b (hsr b _ e (by simp))]; exact hne b _ hb ((hG b hb).symm.trans e) (by simp))) fun b hb e => by
    rw [hso b (hsn b e)]; exact hno b hb ((hG b hb).symm.trans e)
 ·exact hg.bus.same (fun b hb e => by
   rcases e with e | ⟨i, e⟩ <;> (rw [hso b (hsr b _ e (by simp))]; exact hne b _ hb ((hG b hb).symm.trans e) (by simp))) fun b hb e => by
    rw [hso b (hsn b e)]; exact hno b hb ((hG b hb).symm.trans e)
 ·refine ⟨rows ++ [#[.slice tA ts.length tc]], ho.same (fun g e _ => hso g (hsr g _ (hA g e) (by simp))), by simp [hl], hA, fun i x rw0 hi hri => ?_⟩
  rcases Nat.lt_trichotomy i h.lev.length with e | e | e
  ·rw [List.getElem?_append_left (by omega)] at hi hri
   obtain ⟨tA, tc, h3, h4⟩ := hv i x rw0 hi hri
   exact ⟨tA, tc, h3, (h4.regh hG).mono (fun _ h => h) fun b hb hlt => by rw [hso b (hsn b hb)]; exact hno b hlt ((hG b hlt).symm.trans hb)⟩
  ·rw [e, List.getElem?_concat_length] at hi
   rw [e, <- hl, List.getElem?_concat_length] at hri
   cases hi; cases hri
   subst e
   exact ⟨tA, tc, rfl, hx.mono (fun _ h => h) fun b hb _ => hso b (hsn b hb)⟩
  ·rw [List.getElem?_eq_none (by simp; omega)] at hi; cases hi
 ·exact hg.dei.same fun b hb e => by rw [hso b (hsn b e)]; exact hno b hb ((hG b hb).symm.trans e)
 ·obtain ⟨rows2, ho2, hl2, hr2⟩ := hg.ord
  exact ⟨rows2, ho2.same fun b e hb => by
   have e9 := hr2 b e
   rw [hso b (hsr b _ e9 (by simp))]; exact hne b _ hb ((hG b hb).symm.trans e9) (by simp), hl2, hr2⟩
theorem DDone.addL (hh : DAt w G k p h nr dA dc oA oc bA bc lA lc rA rc) (hf : Fr w G) {rows : List (Array Value)} {ts : List Tk} {tA : Option Addr} {tc : Nat} {A' : Option Addr} {c' : Nat}
  (hl : rows.length = h.lev.length) (hv : ∀ (i : Nat) (ts : List Tk) (row : Array Value), h.lev[i]? = some ts -> rows[i]? = some row -> ∃ tA tc, row = #[.slice tA ts.length tc] /\ DTks w (Imm G) ts tA tc)
  (ho : OwnL w' 102 1 A' c' (rows ++ [#[.slice tA ts.length tc]])) (hk : Keep (fun b => lA = some ⟨b, 0, none⟩) w w') (hor : RoleOf G lA (k, .lar)) (hA : A' = lA ∨ ∃ g, A' = some ⟨g, 0, none⟩ /\ w.heap.size <= g) (hx : DTks w (Imm G) ts tA tc) :
  DDone w G k p { h with lev := h.lev ++ [ts] } nr (w'.setCell ⟨p, 3, none⟩ (.slice A' (rows.length + 1) c')) (own G A' (k, .lar)) :=
 DDone.grow (by simp) hf hh.rp (heap_lt hh.blk) hor hk hA ho ⟨_, _, _, _, _, _, _, _, _, _, hh.addL hl hv ho hk hor (own_again hor hA) (own_role _ _ _) ((hx.regh (own_again hor hA)).mono (fun _ h => h) fun b hb hlt => hk.block b hlt fun e2 => by unfold Imm at hb; rw [own_again hor hA b hlt, hor b e2] at hb; cases hb)⟩
end
theorem info102b : (Try.prog.info? 102).map (fun i => (i.zero, i.size, i.bytes)) = some (some (.slice none 0 0), 1, 24) := by kernel_rfl
theorem elt90 : Elt 90 102 1 24 #[.slice none 0 0] := by obtain ⟨i, a, b, c, d⟩ := info_parts info102b; exact ⟨u90d, by decide, rfl, i, _, a, b, c, d, rfl⟩
theorem info90 : (Try.prog.info? 90).map (·.size) = some 1 := by kernel_rfl
def drow (rv : Array Value) : Array Value := #[.bool false] ++ rv ++ #[.int .i64 0, .int .i64 0]
theorem built125 (a0 a1 a2 a3 a4 a5 a6 a7 a8 : Value) : Try.prog.built 125 [(1, .agg #[a0, a1, a2, a3, a4, a5, a6, a7, a8])] = some (drow #[a0, a1, a2, a3, a4, a5, a6, a7, a8]) := by kernel_rfl
theorem drow_size {rv : Array Value} (h : rv.size = 9) : (drow rv).size = 12 := by simp [drow, h]
theorem ex_build125 {ev : Operand -> Value} {o : Oper} {w : World} (x : Operand) (ho : o.op = .build 125 #[(1, x)]) {rv : Array Value} (hr : rv.size = 9) (hx : ev x = .agg rv) : (execOp ev o).run Try.prog w = .ok (.value (.agg (drow rv))) w := by
 obtain ⟨l⟩ := rv
 match l, hr with
 | [a0, a1, a2, a3, a4, a5, a6, a7, a8], _ => exact ex_build 125 _ ho (by simp only [List.map_cons, List.map_nil, hx]) (built125 a0 a1 a2 a3 a4 a5 a6 a7 a8)
theorem run_bs102 (a0 a1 a2 a3 a4 a5 a6 a7 a8 a9 a10 a11 : Value) (w : World) : (Instr.buildSlice 102 1 #[(0, .agg #[a0, a1, a2, a3, a4, a5, a6, a7, a8, a9, a10, a11])]).run Try.prog w = .ok (.slice (some ⟨w.heap.size, 0, none⟩) 1 1) (w.alloc (.cells #[a0, a1, a2, a3, a4, a5, a6, a7, a8, a9, a10, a11] 125)) := by kernel_rfl
theorem ex_bs102 {ev : Operand -> Value} {o : Oper} {w : World} (x : Operand) (ho : o.op = .buildSlice 102 1 #[(0, x)]) {row : Array Value} (hx : ev x = .agg row) (h : row.size = 12) :
  (execOp ev o).run Try.prog w = .ok (.value (.slice (some ⟨w.heap.size, 0, none⟩) 1 1)) (w.alloc (.cells row 125)) := by
 obtain ⟨l⟩ := row
 match l, h with
 | [a0, a1, a2, a3, a4, a5, a6, a7, a8, a9, a10, a11], _ =>
  unfold execOp
  have := run_bs102 a0 a1 a2 a3 a4 a5 a6 a7 a8 a9 a10 a11 w
  simp [ho, hx, this, Result.andThen]
theorem run_bs90 (A : Option Addr) (l c : Nat) (w : World) : (Instr.buildSlice 90 1 #[(0, .slice A l c)]).run Try.prog w = .ok (.slice (some ⟨w.heap.size, 0, none⟩) 1 1) (w.alloc (.cells #[.slice A l c] 102)) := by kernel_rfl
theorem ex_bs90 {ev : Operand -> Value} {o : Oper} {w : World} (x : Operand) (ho : o.op = .buildSlice 90 1 #[(0, x)]) {A : Option Addr} {l c : Nat} (hx : ev x = .slice A l c) :
  (execOp ev o).run Try.prog w = .ok (.value (.slice (some ⟨w.heap.size, 0, none⟩) 1 1)) (w.alloc (.cells #[.slice A l c] 102)) := by
 unfold execOp
 have := run_bs90 A l c w
 simp [ho, hx, this, Result.andThen]
theorem dEnd_any {G : Gh} {k p nr : Nat} {h : Hp} {w : World} (hh : DHeapAt w G k p h nr) (hf : Fr w G) (hnb : h.lev.length <= 1000000) {v : Va} {row : Array Value} (hv : VAt w (Imm G) v row) (hnd : nodesF v <= 1000000) :
  Calls Try.prog 48 #[.pointer (some ⟨p, 0, none⟩), .agg row] w (DErrOf w G k p nr (endP h v)) := by
 have HND := Zi hnd
 have HX := Zi hh
 have HF := Zi hf
 have HV := Zi hv
 have hvs := hv.size
 have hv1 := hv.one
 have hb := Below.refl w.heap.size w
 clear hh hf hv hnd
 go_enter Try.func48, Try.ntmps48
 go_upto_region 0 with fail
 apply Zl
 (with_reducible refine wl_boxV rfl ?_); intro W q hbn hlq hq; replace hb := hb.trans (hbn.mono hb.size); clear hbn; simp only [Zq]
 refine Zm ?_
 have HQG : Hid (G q = none) := Zi (HF.out q (by omega))
 have HDn := Zi (DDone.calm HX.out HF.out hb)
 replace HV := Zi (HV.out.old hb)
 clear HX HF hb
 obtain ⟨bb, hbb⟩ : ∃ b, b = ofV h.obs.length h.bus.length v := ⟨_, rfl⟩
 have hc := dof_done HDn.out.heap HV.out
 rw [<- hbb] at hc
 have HC := Zi hc
 have HB := Zi hbb
 clear hc hbb
 go_upto_region 1 with fail
 apply Zl
 refine Zm ?_
 refine Zw rfl (row35 hq hvs) ?_
 refine Zn HC.out ?_; rintro e w7 ⟨rfl, hb7⟩; refine ⟨_, rfl, ?_⟩; simp only [Zq]
 replace HDn := Zi (HDn.out.quiet hb7); replace HV := Zi (HV.out.old hb7); replace hq := below_look hb7 hq; clear hb7
 refine Zm ?_
 clear HC
 cases bb with
 | false =>
  have HD : Hid (endP h v = (h, 4)) := Zi (by unfold endP; rw [<- HB.out]; rfl)
  go_upto_region 2 with fail
  apply Zl
  refine Zm ?_
  go_wp2_with fail
  go_ret
  rw [HD.out]
  exact ⟨_, rfl, HDn.out⟩
 | true =>
  obtain ⟨bd, hbd⟩ : ∃ b, b = deadV h v := ⟨_, rfl⟩
  have hc := ddead_done HDn.out.heap HV.out HB.out.symm
  rw [<- hbd] at hc
  have HC := Zi hc
  have HBD := Zi hbd
  clear hc hbd
  go_upto_region 3 with fail
  apply Zl
  refine Zm ?_
  refine Zw rfl (row35 hq hvs) ?_
  refine Zn HC.out ?_; rintro e w8 ⟨rfl, hb8⟩; refine ⟨_, rfl, ?_⟩; simp only [Zq]
  replace HDn := Zi (HDn.out.quiet hb8); replace HV := Zi (HV.out.old hb8); replace hq := below_look hb8 hq; clear hb8
  clear HC
  cases bd with
  | true =>
   have HD : Hid (endP h v = (h, 140)) := Zi (by unfold endP; rw [<- HB.out, <- HBD.out]; rfl)
   go_upto_region 4 with fail
   apply Zl
   refine Zm ?_
   go_wp2_with fail
   go_ret
   rw [HD.out]
   exact ⟨_, rfl, HDn.out⟩
  | false =>
   have HD : Hid (endP h v = ({ h with lev := h.lev ++ [[.val v]] }, 0)) := Zi (by unfold endP; rw [<- HB.out, <- HBD.out]; rfl)
   obtain ⟨dA, dc, oA, oc, bA, bc, lA, lc, rA, rc, hh⟩ := HDn.out.heap
   have HH := Zi hh
   have hp := hh.blk
   obtain ⟨rows, ho, hlr, hor, hvr⟩ := hh.lev
   have HO := Zi ho
   have HLR := Zi hlr
   have HOR := Zi hor
   have HVR := Zi hvr
   have hnp : ¬ (lA = some ⟨p, 0, none⟩) := fun e2 => by have := hor p e2; rw [hh.rp] at this; cases this
   have hnq : ¬ (lA = some ⟨q, 0, none⟩) := fun e2 => by have := hor q e2; rw [HQG.out] at this; cases this
   have HNP := Zi hnp
   have HNQ := Zi hnq
   have hlen : rows.length <= 1000000 := by omega
   clear hnp hnq hh ho hlr hor hvr
   have hbz : Below w8.heap.size w8 w8.drew := (Below.refl _ _).drew
   have HC := Zi (CopyValue_any v HND.out w8.drew _ _ (HV.out.old hbz))
   go_upto_region 5 with fail
   refine wp_region_Z (S := fun w' => Keep (fun b => lA = some ⟨b, 0, none⟩) w8 w') 10 mixed (Keep.of hbz) (fun hS => ?_)
   refine zm 0 hS ?_; try simp only [Zq]
   refine zm 1 hS ?_; try simp only [Zq]
   refine zm 2 hS ?_; try simp only [Zq]
   refine zv4 (i := 3) rfl (by kernel_rfl) Zg hS rfl (fun w' hw' => ex_one rfl (dh3 (hw'.look hp HNP.out))) ?_; try simp only [Zq]
   refine zv4 (i := 4) rfl (by kernel_rfl) Zg hS rfl (fun w' hw' => ex_row rfl (row35 (hw'.look hq HNQ.out) hvs)) ?_; try simp only [Zq]
   refine za_call (i := 5) (by kernel_rfl) rfl rfl (fun K hK => ?_); go_simp; refine ⟨_, _, ⟨rfl, rfl⟩, hK _ _ ⟨_, HC.out, ?_⟩⟩; clear hK K; rintro e w9 ⟨row9, rfl, hv9, hb9⟩
   have hb9' := hbz.trans (hb9.mono hbz.size)
   have hS9 : Keep (fun b => lA = some ⟨b, 0, none⟩) w8 w9 := Keep.of hb9'
   refine ⟨_, rfl, fun _ => hS9, ?_⟩
   clear hS
   have hS := hS9
   try simp only [Zq]
   have hvs9 := hv9.size
   have hv19 := hv9.one
   have HV9 := Zi (HDn.out.newva (hv9.weak (D' := fun b => w8.heap.size <= b) fun b (h9 : w8.drew.heap.size <= b) => by have := hbz.size; omega))
   clear hv9 HC hS9
   refine zv4 (i := 6) rfl (by kernel_rfl) Zg hS rfl (fun w' hw' => ex_build125 _ rfl hvs9 rfl) ?_; try simp only [Zq]
   refine za_new (i := 7) (v := fun q => .slice (some ⟨q, 0, none⟩) 1 1) (by kernel_rfl) rfl rfl (ex_bs102 _ rfl rfl (drow_size hvs9)) (fun W hW => hS.trans (C' := fun _ => False) (fun b e => e.elim) (Keep.of hW)) ?_
   clear hS
   intro W8 q8 hbn hlq8 hq8 hS
   try simp only [Zq]
   refine za_new (i := 8) (v := fun q => .slice (some ⟨q, 0, none⟩) 1 1) (by kernel_rfl) rfl rfl (ex_bs90 _ rfl rfl) (fun W hW => hS.trans (C' := fun _ => False) (fun b e => e.elim) (Keep.of hW)) ?_
   clear hS
   intro W9 q9 hbn9 hlq9 hq9 hS
   try simp only [Zq]
   have hb10 := hb9'.trans ((hbn.trans (hbn9.mono hbn.size)).mono hb9'.size)
   have hq88 := below_look hbn9 hq8
   have hvv := HV9.out.old (hbn.trans (hbn9.mono hbn.size))
   have hfq : G q8 = none := HDn.out.fr q8 (by have := hb9'.size; omega)
   have htk : DTks W9 (Imm G) [.val v] (some ⟨q8, 0, none⟩) 1 := ⟨Nat.le_refl _, by unfold maxLen; omega, fun e => (by cases e), fun i t hi => by
    match i, hi with
    | 0, hi =>
     cases hi
     exact ⟨q8, 0, _, 125, (0, 0), drow row9, rfl, hfq, hq88, by have := drow_size hvs9; simp [<- this], drow_size hvs9, row9, hvv, rfl⟩⟩
   have HTK := Zi htk
   have HHz := Zi (HH.out.old hb10)
   have HOz := Zi (HO.out.old hb10)
   have HVz := Zi (fun (i : Nat) (ts : List Tk) (row : Array Value) (e1 : h.lev[i]? = some ts) (e2 : rows[i]? = some row) => by
    obtain ⟨tA, tc, e3, e4⟩ := HVR.out i ts row e1 e2
    exact (⟨tA, tc, e3, e4.mono (fun _ h => h) fun b _ hl => hb10.block b hl⟩ : ∃ tA tc, row = #[.slice tA ts.length tc] /\ DTks W9 (Imm G) ts tA tc))
   have hp10 := below_look hb10 hp
   replace HDn := Zi (HDn.out.quiet hb10)
   clear hbn hbn9 hb10 hq8 hq88 hvv hfq htk HH HO HVR HV9 hb9 hb9' hbz
   refine za_pushL (i := 9) elt90 (by kernel_rfl) rfl rfl _ _ rfl (show _ = Value.slice lA rows.length lc by rw [HLR.out]; rfl) rfl HOz.out hq9 rfl (by simp [Value.oneCell']) (by omega) (by unfold maxLen; omega) (fun w' hk => hS.trans (C' := fun b => lA = some ⟨b, 0, none⟩) (fun b e => .inl e) hk) ?_
   clear hS
   intro A9 c9 W10 hown hk9 hA9 hS
   rw [HLR.out]
   try simp only [Zq]
   have hp11 := hk9.look hp10 HNP.out
   have hd10 := DDone.addL HHz.out HDn.out.fr HLR.out HVz.out hown hk9 HOR.out hA9 HTK.out
   rw [HLR.out] at hd10
   obtain ⟨nb, hnb⟩ : ∃ n, n = h.lev.length + 1 := ⟨_, rfl⟩
   rw [<- hnb] at hd10 ⊢
   have HDN := Zi (HDn.out.trans hd10)
   obtain ⟨hs1, hs2, -⟩ := dhdr_set (j := 3) (v := .slice A9 nb c9) hp11
   have hs1 := hs1 (by omega)
   clear hown hk9 hA9 hd10 HDn HHz HOz HVz HTK hp10 hp11 hq9 hnb
   refine zn 10 hS ?_; try simp only [Zq]
   clear hS
   refine za_done (by kernel_rfl) ?_ _
   clear hp hq
   go_upto_region 6 with fail
   apply Zl
   iterate 4 refine Zm ?_
   refine wl_storeC rfl 90 _ _ rfl p 3 (.slice A9 nb c9) rfl rfl info90 rfl hs1 hs2 ?_
   rw [put_noneA]
   clear hs1 hs2
   go_upto_region 7 with fail
   apply Zl
   refine Zm ?_
   go_wp2_with fail
   go_ret
   rw [HD.out]
   exact ⟨_, rfl, HDN.out⟩
open Go.RowKit Go.Proofs.Ytpamocglecangaa.Nm
set_option linter.unusedSimpArgs false
theorem bytes_inj {s t : ByteArray} (h : s.toList = t.toList) : s = t := by
 rw [ByteArray.toList_eq, ByteArray.toList_eq] at h
 cases s; cases t
 exact congrArg _ (Array.toList_inj.1 h)
def eqTy (t u : Ty) : Bool := decide (t = u)
def eqTys (t u : List Ty) : Bool := decide (t = u)
def EqC (t : Ty) : Prop := ∀ (u : Ty) (w : World) (D D' : Nat -> Prop) (row row' : Array Value), TyAt w D t row -> TyAt w D' u row' ->
 Calls Try.prog 58 #[.agg row, .agg row'] w fun e w' => e = .returned (.bool (eqTy t u)) /\ Below w.heap.size w w'
theorem EqTypes_of (ts us : List Ty) (ih : ∀ t, t ∈ ts -> EqC t) (A A' : Option Addr) (l c l' c' : Nat) (w : World) (D D' : Nat -> Prop) (h : TysAt w D ts A l c) (h' : TysAt w D' us A' l' c') :
  Calls Try.prog 96 #[.slice A l c, .slice A' l' c'] w fun e w' => e = .returned (.bool (eqTys ts us)) /\ Below w.heap.size w w' := by
 have HT := Zi h
 have HU := Zi h'
 have HL := Zi h.len
 have HL' := Zi h'.len
 have HI := Zi ih
 have hcm := h.cap
 have hmx := h.max
 have hcm' := h'.cap
 have hmx' := h'.max
 unfold maxLen at hmx hmx'
 clear h h' ih
 have hb := Below.refl w.heap.size w
 by_cases hne : l = l'
 ·subst hne
  have hz : ((l : Int) != (l : Int)) = false := by simp
  go_enter Try.func96, Try.ntmps96
  go_wp2_with fail
  go_loopw [5] (fun i wr => ∃ j : Nat, j <= l /\ i = .int .i64 (j : Int) /\ Hid (ts.take j = us.take j) /\ Below w.heap.size w wr) (fun i _ => l - (intOf i).toNat)
  case atStart => exact ⟨0, by omega, rfl, Zi rfl, hb⟩
  case round =>
   clear hb
   obtain ⟨j, hj, rfl, HR, hb⟩ := hrel
   by_cases hlt : j < l
   ·have hltI : (j : Int) < (l : Int) := by omega
    obtain ⟨b, off, t, row, rfl, -, ht, -⟩ := HT.out.get hlt
    obtain ⟨b', off', u, row', rfl, -, hu, -⟩ := HU.out.get hlt
    obtain ⟨row, hrow, hta⟩ := (HT.out.old hb).rowK ht
    obtain ⟨row', hrow', hua⟩ := (HU.out.old hb).rowK hu
    have HTA := Zi hta
    have HUA := Zi hua
    have HE := Zi (HI.out t (List.mem_of_getElem? ht) u)
    have hstep : ts.take (j + 1) = us.take (j + 1) ↔ t = u := by
     rw [List.take_add_one, List.take_add_one, HR.out, ht, hu]
     simp
    by_cases hq : t = u
    ·have HR2 := Zi (hstep.2 hq)
     have HC : Hid (∀ w', Below wr.heap.size wr w' -> Calls Try.prog 58 #[.agg row, .agg row'] w' fun e w2 => e = .returned (.bool true) /\ Below w'.heap.size w' w2) := Zi fun w' hw' => by
      have := HE.out w' D D' row row' (HTA.out.old hw') (HUA.out.old hw')
      rwa [show eqTy t u = true by simp [eqTy, hq]] at this
     clear hta hua hstep hq ht hu HE HTA HUA HR
     go_upto_region 6 with fail
     refine wp_region_belowAll mixed (by kernel_rfl) ?_
     iterate 3 refine Zt ?_
     (first | ((with_reducible apply wq_one); exact rfl; exact rfl; intro w' hw'; first | exact f0 (below_look hw' (by assumption)) | exact f1 (below_look hw' (by assumption)) | exact f2 (below_look hw' (by assumption)) | exact f3 (below_look hw' (by assumption)) ) | ((with_reducible apply wq_row); exact rfl; exact rfl; intro w' hw'; first | exact RowK.at (by assumption) hw' | exact f4 (below_look hw' (by assumption))))
     iterate 3 refine Zt ?_
     (first | ((with_reducible apply wq_one); exact rfl; exact rfl; intro w' hw'; first | exact f0 (below_look hw' (by assumption)) | exact f1 (below_look hw' (by assumption)) | exact f2 (below_look hw' (by assumption)) | exact f3 (below_look hw' (by assumption)) ) | ((with_reducible apply wq_row); exact rfl; exact rfl; intro w' hw'; first | exact RowK.at (by assumption) hw' | exact f4 (below_look hw' (by assumption))))
     refine wq_ck rfl (fun K hK => ?_); go_simp; refine ⟨_, _, ⟨rfl, rfl⟩, hK _ _ ⟨_, fun w' hw' => calls_class hw' (HC.out w' hw'), ?_⟩⟩; clear hK K; simp only [Zq]
     refine Zt ?_
     intro w7 hb7
     replace hb := hb.trans (hb7.mono hb.size)
     clear hb7 HC hrow hrow'
     go_wp2_with fail
     go_roundw
     case rel => exact ⟨j + 1, by omega, by go_num, HR2, hb⟩
     case measure => simp [intOf]; omega
    ·have HF : Hid (eqTys ts us = false) := Zi (by
      simp only [eqTys, decide_eq_false_iff_not]; intro e; exact hq (hstep.1 (by rw [e])))
     have HC : Hid (∀ w', Below wr.heap.size wr w' -> Calls Try.prog 58 #[.agg row, .agg row'] w' fun e w2 => e = .returned (.bool false) /\ Below w'.heap.size w' w2) := Zi fun w' hw' => by
      have := HE.out w' D D' row row' (HTA.out.old hw') (HUA.out.old hw')
      rwa [show eqTy t u = false by simp [eqTy, hq]] at this
     clear hta hua hstep hq ht hu HE HTA HUA HR
     go_upto_region 6 with fail
     refine wp_region_belowAll mixed (by kernel_rfl) ?_
     iterate 3 refine Zt ?_
     (first | ((with_reducible apply wq_one); exact rfl; exact rfl; intro w' hw'; first | exact f0 (below_look hw' (by assumption)) | exact f1 (below_look hw' (by assumption)) | exact f2 (below_look hw' (by assumption)) | exact f3 (below_look hw' (by assumption)) ) | ((with_reducible apply wq_row); exact rfl; exact rfl; intro w' hw'; first | exact RowK.at (by assumption) hw' | exact f4 (below_look hw' (by assumption))))
     iterate 3 refine Zt ?_
     (first | ((with_reducible apply wq_one); exact rfl; exact rfl; intro w' hw'; first | exact f0 (below_look hw' (by assumption)) | exact f1 (below_look hw' (by assumption)) | exact f2 (below_look hw' (by assumption)) | exact f3 (below_look hw' (by assumption)) ) | ((with_reducible apply wq_row); exact rfl; exact rfl; intro w' hw'; first | exact RowK.at (by assumption) hw' | exact f4 (below_look hw' (by assumption))))
     refine wq_ck rfl (fun K hK => ?_); go_simp; refine ⟨_, _, ⟨rfl, rfl⟩, hK _ _ ⟨_, fun w' hw' => calls_class hw' (HC.out w' hw'), ?_⟩⟩; clear hK K; simp only [Zq]
     refine Zt ?_
     intro w7 hb7
     replace hb := hb.trans (hb7.mono hb.size)
     clear hb7 HC hrow hrow'
     go_wp2_with fail
     go_ret
     exact ⟨by rw [HF.out]; rfl, hb⟩
   ·have hltI : ¬ (j : Int) < (l : Int) := by omega
    have HF : Hid (eqTys ts us = true) := Zi (by
     have := HR.out
     rw [List.take_of_length_le (by rw [HL.out]; omega), List.take_of_length_le (by rw [HL'.out]; omega)] at this
     simp [eqTys, this])
    clear HR
    go_wp2_with fail
    go_ret
    exact ⟨by rw [HF.out]; rfl, hb⟩
 ·have hz : ((l : Int) != (l' : Int)) = true := bne_iff_ne.2 (by omega)
  have HF : Hid (eqTys ts us = false) := Zi (by simp only [eqTys, decide_eq_false_iff_not]; intro e; subst e; exact hne (HL.out.symm.trans HL'.out))
  go_enter Try.func96, Try.ntmps96
  go_wp2_with fail
  go_ret
  exact ⟨by rw [HF.out]; rfl, hb⟩
theorem EqType_any : ∀ t : Ty, EqC t := Ty.ind fun k s n ts ih u w D D' row row' h h' => by
 obtain ⟨k1, s1, n1, A, l, c, ts1, e, rfl, hk, hn, hs, hT⟩ := h.parts
 cases e
 obtain ⟨k', s', n', A', l', c', us, rfl, rfl, hk', hn', hs', hU⟩ := h'.parts
 have HT := Zi hT
 have HU := Zi hU
 have HI := Zi ih
 clear h h' hk hn hs hT ih hk' hn' hs' hU
 obtain ⟨B, hB⟩ : ∃ B, B = eqTy (.node k s n ts) (.node k' s' n' us) := ⟨_, rfl⟩
 have HB := Zi hB
 rw [<- hB]
 clear hB
 go_enter Try.func58, Try.ntmps58
 go_upto_region 0 with fail
 apply Zl
 (with_reducible refine wl_box rfl ?_); intro W p hbn hlp hp; simp only [Zq]
 have hb := hbn
 clear hbn
 (with_reducible refine wl_box rfl ?_); intro W2 q hbn hlq hq; simp only [Zq]
 replace hp := below_look hbn hp
 replace hb := hb.trans (hbn.mono hb.size); clear hbn
 refine Zm ?_
 by_cases h1 : k = k'
 ·have e1 : (k == k') = true := beq_iff_eq.2 h1
  by_cases h2 : s = s'
  ·have e2 : (s.toList == s'.toList) = true := beq_iff_eq.2 (by rw [h2])
   by_cases h3 : n = n'
   ·have e3 : (n == n') = true := beq_iff_eq.2 h3
    have HC := Zi (EqTypes_of ts us HI.out A A' l c l' c' W2 D D' (HT.out.old hb) (HU.out.old hb))
    have hBe : B = eqTys ts us := by rw [HB.out]; simp [eqTy, eqTys, h1, h2, h3]
    rw [<- hBe] at HC
    clear h1 h2 h3 HB hBe
    go_upto_region 1 with fail
    apply Zl
    refine Zm ?_
    refine Zo rfl (f0 (by assumption)) ?_
    refine Zm ?_
    refine Zo rfl (f0 (by assumption)) ?_
    iterate 3 refine Zm ?_
    refine Zo rfl (f1 (by assumption)) ?_
    refine Zm ?_
    refine Zo rfl (f1 (by assumption)) ?_
    iterate 4 refine Zm ?_
    refine Zo rfl (f2 (by assumption)) ?_
    refine Zm ?_
    refine Zo rfl (f2 (by assumption)) ?_
    iterate 4 refine Zm ?_
    refine Zo rfl (f3 (by assumption)) ?_
    refine Zm ?_
    refine Zo rfl (f3 (by assumption)) ?_
    refine Zn HC.out ?_; rintro e w7 ⟨rfl, hb7⟩; refine ⟨_, rfl, ?_⟩; simp only [Zq]
    iterate 2 refine Zm ?_
    replace hb := hb.trans (hb7.mono hb.size)
    clear hb7 HC
    go_wp2_with fail
    go_ret
    exact ⟨rfl, hb⟩
   ·have e3 : (n == n') = false := beq_eq_false_iff_ne.2 h3
    obtain rfl : B = false := by rw [HB.out]; simp [eqTy, h3]
    clear h1 h2 h3
    go_upto_region 1 with fail
    apply Zl
    refine Zm ?_
    refine Zo rfl (f0 (by assumption)) ?_
    refine Zm ?_
    refine Zo rfl (f0 (by assumption)) ?_
    iterate 3 refine Zm ?_
    refine Zo rfl (f1 (by assumption)) ?_
    refine Zm ?_
    refine Zo rfl (f1 (by assumption)) ?_
    iterate 4 refine Zm ?_
    refine Zo rfl (f2 (by assumption)) ?_
    refine Zm ?_
    refine Zo rfl (f2 (by assumption)) ?_
    iterate 3 refine Zm ?_
    iterate 5 ((first | ((with_reducible refine wl_skipU ?_ ?_ ?_); exact rfl; exact rfl) | ((with_reducible refine wl_skip ?_ ?_); exact rfl; simp only [Zq])))
    iterate 2 refine Zm ?_
    go_wp2_with fail
    go_ret
    exact ⟨rfl, hb⟩
  ·have e2 : (s.toList == s'.toList) = false := beq_eq_false_iff_ne.2 (fun e => h2 (bytes_inj e))
   obtain rfl : B = false := by rw [HB.out]; simp [eqTy, h2]
   clear h1 h2
   go_upto_region 1 with fail
   apply Zl
   refine Zm ?_
   refine Zo rfl (f0 (by assumption)) ?_
   refine Zm ?_
   refine Zo rfl (f0 (by assumption)) ?_
   iterate 3 refine Zm ?_
   refine Zo rfl (f1 (by assumption)) ?_
   refine Zm ?_
   refine Zo rfl (f1 (by assumption)) ?_
   iterate 3 refine Zm ?_
   iterate 5 ((first | ((with_reducible refine wl_skipU ?_ ?_ ?_); exact rfl; exact rfl) | ((with_reducible refine wl_skip ?_ ?_); exact rfl; simp only [Zq])))
   iterate 2 refine Zm ?_
   iterate 5 ((first | ((with_reducible refine wl_skipU ?_ ?_ ?_); exact rfl; exact rfl) | ((with_reducible refine wl_skip ?_ ?_); exact rfl; simp only [Zq])))
   iterate 2 refine Zm ?_
   go_wp2_with fail
   go_ret
   exact ⟨rfl, hb⟩
 ·have e1 : (k == k') = false := beq_eq_false_iff_ne.2 h1
  obtain rfl : B = false := by rw [HB.out]; simp [eqTy, h1]
  clear h1
  go_upto_region 1 with fail
  apply Zl
  refine Zm ?_
  refine Zo rfl (f0 (by assumption)) ?_
  refine Zm ?_
  refine Zo rfl (f0 (by assumption)) ?_
  iterate 2 refine Zm ?_
  iterate 5 ((first | ((with_reducible refine wl_skipU ?_ ?_ ?_); exact rfl; exact rfl) | ((with_reducible refine wl_skip ?_ ?_); exact rfl; simp only [Zq])))
  iterate 2 refine Zm ?_
  iterate 5 ((first | ((with_reducible refine wl_skipU ?_ ?_ ?_); exact rfl; exact rfl) | ((with_reducible refine wl_skip ?_ ?_); exact rfl; simp only [Zq])))
  iterate 2 refine Zm ?_
  iterate 5 ((first | ((with_reducible refine wl_skipU ?_ ?_ ?_); exact rfl; exact rfl) | ((with_reducible refine wl_skip ?_ ?_); exact rfl; simp only [Zq])))
  iterate 2 refine Zm ?_
  go_wp2_with fail
  go_ret
  exact ⟨rfl, hb⟩
theorem EqTypes_any (ts us : List Ty) (A A' : Option Addr) (l c l' c' : Nat) (w : World) (D D' : Nat -> Prop) (h : TysAt w D ts A l c) (h' : TysAt w D' us A' l' c') :
  Calls Try.prog 96 #[.slice A l c, .slice A' l' c'] w fun e w' => e = .returned (.bool (eqTys ts us)) /\ Below w.heap.size w w' := EqTypes_of ts us (fun t _ => EqType_any t) A A' l c l' c' w D D' h h'
open Classical in
noncomputable def eqVa (t u : Va) : Bool := decide (t = u)
open Classical in
noncomputable def eqVas (t u : List Va) : Bool := decide (t = u)
def EqVC (t : Va) : Prop := ∀ (u : Va) (w : World) (D D' : Nat -> Prop) (row row' : Array Value), VAt w D t row -> VAt w D' u row' ->
 Calls Try.prog 82 #[.agg row, .agg row'] w fun e w' => e = .returned (.bool (eqVa t u)) /\ Below w.heap.size w w'
theorem EqValues_of (ts us : List Va) (ih : ∀ t, t ∈ ts -> EqVC t) (A A' : Option Addr) (l c l' c' : Nat) (w : World) (D D' : Nat -> Prop) (h : VsAt w D ts A l c) (h' : VsAt w D' us A' l' c') :
  Calls Try.prog 59 #[.slice A l c, .slice A' l' c'] w fun e w' => e = .returned (.bool (eqVas ts us)) /\ Below w.heap.size w w' := by
 have HT := Zi h
 have HU := Zi h'
 have HL := Zi h.len
 have HL' := Zi h'.len
 have HI := Zi ih
 have hcm := h.cap
 have hmx := h.max
 have hcm' := h'.cap
 have hmx' := h'.max
 unfold maxLen at hmx hmx'
 clear h h' ih
 have hb := Below.refl w.heap.size w
 by_cases hne : l = l'
 ·subst hne
  have hz : ((l : Int) != (l : Int)) = false := by simp
  go_enter Try.func59, Try.ntmps59
  go_wp2_with fail
  go_loopw [5] (fun i wr => ∃ j : Nat, j <= l /\ i = .int .i64 (j : Int) /\ Hid (ts.take j = us.take j) /\ Below w.heap.size w wr) (fun i _ => l - (intOf i).toNat)
  case atStart => exact ⟨0, by omega, rfl, Zi rfl, hb⟩
  case round =>
   clear hb
   obtain ⟨j, hj, rfl, HR, hb⟩ := hrel
   by_cases hlt : j < l
   ·have hltI : (j : Int) < (l : Int) := by omega
    obtain ⟨b, off, t, row, rfl, -, ht, hta, hrow⟩ := (HT.out.old hb).getB hlt
    obtain ⟨b', off', u, row', rfl, -, hu, hua, hrow'⟩ := (HU.out.old hb).getB hlt
    have HR1 := Zi hrow
    have HR2' := Zi hrow'
    have HTA := Zi hta
    have HUA := Zi hua
    have HE := Zi (HI.out t (List.mem_of_getElem? ht) u)
    have hstep : ts.take (j + 1) = us.take (j + 1) ↔ t = u := by
     rw [List.take_add_one, List.take_add_one, HR.out, ht, hu]
     simp
    by_cases hq : t = u
    ·have HR2 := Zi (hstep.2 hq)
     have HC : Hid (∀ w', Below wr.heap.size wr w' -> Calls Try.prog 82 #[.agg row, .agg row'] w' fun e w2 => e = .returned (.bool true) /\ Below w'.heap.size w' w2) := Zi fun w' hw' => by
      have := HE.out w' D D' row row' (HTA.out.old hw') (HUA.out.old hw')
      rwa [show eqVa t u = true by simp [eqVa, hq]] at this
     clear hta hua hstep hq ht hu HE HTA HUA HR hrow hrow'
     go_upto_region 6 with fail
     refine wp_region_belowAll mixed (by kernel_rfl) ?_
     iterate 3 refine Zt ?_
     ((with_reducible apply wq_row); exact rfl; exact rfl; exact HR1.out)
     iterate 3 refine Zt ?_
     ((with_reducible apply wq_row); exact rfl; exact rfl; exact HR2'.out)
     refine wq_ck rfl (fun K hK => ?_); go_simp; refine ⟨_, _, ⟨rfl, rfl⟩, hK _ _ ⟨_, fun w' hw' => calls_class hw' (HC.out w' hw'), ?_⟩⟩; clear hK K; simp only [Zq]
     refine Zt ?_
     intro w7 hb7
     replace hb := hb.trans (hb7.mono hb.size)
     clear hb7 HC HR1 HR2'
     go_wp2_with fail
     go_roundw
     case rel => exact ⟨j + 1, by omega, by go_num, HR2, hb⟩
     case measure => simp [intOf]; omega
    ·have HF : Hid (eqVas ts us = false) := Zi (by
      simp only [eqVas, decide_eq_false_iff_not]; intro e; exact hq (hstep.1 (by rw [e])))
     have HC : Hid (∀ w', Below wr.heap.size wr w' -> Calls Try.prog 82 #[.agg row, .agg row'] w' fun e w2 => e = .returned (.bool false) /\ Below w'.heap.size w' w2) := Zi fun w' hw' => by
      have := HE.out w' D D' row row' (HTA.out.old hw') (HUA.out.old hw')
      rwa [show eqVa t u = false by simp [eqVa, hq]] at this
     clear hta hua hstep hq ht hu HE HTA HUA HR hrow hrow'
     go_upto_region 6 with fail
     refine wp_region_belowAll mixed (by kernel_rfl) ?_
     iterate 3 refine Zt ?_
     ((with_reducible apply wq_row); exact rfl; exact rfl; exact HR1.out)
     iterate 3 refine Zt ?_
     ((with_reducible apply wq_row); exact rfl; exact rfl; exact HR2'.out)
     refine wq_ck rfl (fun K hK => ?_); go_simp; refine ⟨_, _, ⟨rfl, rfl⟩, hK _ _ ⟨_, fun w' hw' => calls_class hw' (HC.out w' hw'), ?_⟩⟩; clear hK K; simp only [Zq]
     refine Zt ?_
     intro w7 hb7
     replace hb := hb.trans (hb7.mono hb.size)
     clear hb7 HC HR1 HR2'
     go_wp2_with fail
     go_ret
     exact ⟨by rw [HF.out]; rfl, hb⟩
   ·have hltI : ¬ (j : Int) < (l : Int) := by omega
    have HF : Hid (eqVas ts us = true) := Zi (by
     have := HR.out
     rw [List.take_of_length_le (by rw [HL.out]; omega), List.take_of_length_le (by rw [HL'.out]; omega)] at this
     simp [eqVas, this])
    clear HR
    go_wp2_with fail
    go_ret
    exact ⟨by rw [HF.out]; rfl, hb⟩
 ·have hz : ((l : Int) != (l' : Int)) = true := bne_iff_ne.2 (by omega)
  have HF : Hid (eqVas ts us = false) := Zi (by simp only [eqVas, decide_eq_false_iff_not]; intro e; subst e; exact hne (HL.out.symm.trans HL'.out))
  go_enter Try.func59, Try.ntmps59
  go_wp2_with fail
  go_ret
  exact ⟨by rw [HF.out]; rfl, hb⟩
theorem EqValue_any : ∀ v : Va, EqVC v := Va.ind fun v ih u w D D' row row' h h' => by
 obtain ⟨tr, A2, l2, c2, A3, l3, c3, hr⟩ := h.row
 obtain ⟨tr', A2', l2', c2', A3', l3', c3', hr'⟩ := h'.row
 have HR := Zi hr
 have HR' := Zi hr'
 have HI := Zi ih
 have hrs := h.size
 have hrs' := h'.size
 clear h h' hr hr' ih
 obtain ⟨B, hB⟩ : ∃ B, B = eqVa v u := ⟨_, rfl⟩
 have HB := Zi hB
 rw [<- hB]
 clear hB
 have hb := Below.refl w.heap.size w
 go_enter Try.func82, Try.ntmps82
 go_upto_region 0 with fail
 apply Zl
 (with_reducible refine wl_boxV rfl ?_); intro W p hbn hlp hp; replace hb := hb.trans (hbn.mono hb.size); clear hbn; simp only [Zq]
 have lthpq := heap_lt hp; (with_reducible refine wl_boxV rfl ?_); intro W2 q hbn hlq hq; replace hp := below_look hbn hp; replace hb := hb.trans (hbn.mono hb.size); clear hbn; simp only [Zq]
 refine Zm ?_
 have HEV : Hid (v = u ↔ v.kind = u.kind /\ v.num = u.num /\ v.txt = u.txt /\ v.typ = u.typ /\ v.tys = u.tys /\ v.parts = u.parts) := Zi (by cases v; cases u; simp [Va.kind, Va.num, Va.txt, Va.typ, Va.tys, Va.parts])
 have HBF : Hid (¬ v = u -> B = false) := Zi (fun e => by rw [HB.out]; simp [eqVa, e])
 by_cases h1 : v.kind = u.kind
 ·have e1 : (v.kind == u.kind) = true := beq_iff_eq.2 h1
  by_cases h2 : v.num = u.num
  ·have e2 : (v.num == u.num) = true := beq_iff_eq.2 h2
   by_cases h3 : v.txt = u.txt
   ·have e3 : (v.txt.toList == u.txt.toList) = true := beq_iff_eq.2 (by rw [h3])
    have HTY := Zi (HR.out.ty.old hb)
    have HTY' := Zi (HR'.out.ty.old hb)
    have HCT := Zi fun (w' : World) (hw : Below W2.heap.size W2 w') => EqType_any v.typ u.typ w' D D' tr tr' (HTY.out.old hw) (HTY'.out.old hw)
    by_cases h4 : v.typ = u.typ
    ·have e4 : eqTy v.typ u.typ = true := by simp [eqTy, h4]
     have HC1 : Hid (∀ w', Below W2.heap.size W2 w' -> Calls Try.prog 58 #[.agg tr, .agg tr'] w' fun e w2 => e = .returned (.bool true) /\ Below w'.heap.size w' w2) := Zi fun w' hw => by have := HCT.out w' hw; rwa [e4] at this
     have HCS := Zi fun (w' : World) (hw : Below W2.heap.size W2 w') => EqTypes_any v.tys u.tys A2 A2' l2 c2 l2' c2' w' D D' ((HR.out.tys.old hb).old hw) ((HR'.out.tys.old hb).old hw)
     by_cases h5 : v.tys = u.tys
     ·have e5 : eqTys v.tys u.tys = true := by simp [eqTys, h5]
      have HC2 : Hid (∀ w', Below W2.heap.size W2 w' -> Calls Try.prog 96 #[.slice A2 l2 c2, .slice A2' l2' c2'] w' fun e w2 => e = .returned (.bool true) /\ Below w'.heap.size w' w2) := Zi fun w' hw => by have := HCS.out w' hw; rwa [e5] at this
      have hBe : B = eqVas v.parts u.parts := by
       rw [HB.out]
       have : v = u ↔ v.parts = u.parts := HEV.out.trans ⟨fun e => e.2.2.2.2.2, fun e => ⟨h1, h2, h3, h4, h5, e⟩⟩
       simp [eqVa, eqVas, this]
      have HC3 : Hid (∀ w', Below W2.heap.size W2 w' -> Calls Try.prog 59 #[.slice A3 l3 c3, .slice A3' l3' c3'] w' fun e w2 => e = .returned (.bool B) /\ Below w'.heap.size w' w2) := Zi fun w' hw => by rw [hBe]; exact EqValues_of v.parts u.parts HI.out A3 A3' l3 c3 l3' c3' w' D D' ((HR.out.vs.old hb).old hw) ((HR'.out.vs.old hb).old hw)
      clear h1 h2 h3 h4 h5 e4 e5 hBe HCT HCS HTY HTY' HEV HBF HB
      have hz := Below.refl W2.heap.size W2
      go_upto_region 1 with fail
      apply Zl
      refine Zm ?_
      refine Zo rfl (vk (by assumption) (by assumption)) ?_
      refine Zm ?_
      refine Zo rfl (vk (by assumption) (by assumption)) ?_
      iterate 3 refine Zm ?_
      refine Zo rfl (vn (by assumption) (by assumption)) ?_
      refine Zm ?_
      refine Zo rfl (vn (by assumption) (by assumption)) ?_
      iterate 4 refine Zm ?_
      refine Zo rfl (vs (by assumption) (by assumption)) ?_
      refine Zm ?_
      refine Zo rfl (vs (by assumption) (by assumption)) ?_
      iterate 4 refine Zm ?_
      refine Zw rfl (vt (by assumption) (by assumption)) ?_
      refine Zm ?_
      refine Zw rfl (vt (by assumption) (by assumption)) ?_
      refine Zn (HC1.out _ hz) ?_; rintro e w7 ⟨rfl, hb7⟩; refine ⟨_, rfl, ?_⟩; simp only [Zq]
      replace hp := below_look hb7 hp; replace hq := below_look hb7 hq; replace hz := hz.trans (hb7.mono hz.size); clear hb7
      iterate 3 refine Zm ?_
      refine Zo rfl (vts (by assumption) (by assumption)) ?_
      refine Zm ?_
      refine Zo rfl (vts (by assumption) (by assumption)) ?_
      refine Zn (HC2.out _ hz) ?_; rintro e w8 ⟨rfl, hb8⟩; refine ⟨_, rfl, ?_⟩; simp only [Zq]
      replace hp := below_look hb8 hp; replace hq := below_look hb8 hq; replace hz := hz.trans (hb8.mono hz.size); clear hb8
      iterate 3 refine Zm ?_
      refine Zo rfl (vl (by assumption) (by assumption)) ?_
      refine Zm ?_
      refine Zo rfl (vl (by assumption) (by assumption)) ?_
      refine Zn (HC3.out _ hz) ?_; rintro e w9 ⟨rfl, hb9⟩; refine ⟨_, rfl, ?_⟩; simp only [Zq]
      replace hp := below_look hb9 hp; replace hq := below_look hb9 hq; replace hz := hz.trans (hb9.mono hz.size); clear hb9
      iterate 2 refine Zm ?_
      go_wp2_with fail
      go_ret
      exact ⟨rfl, hb.trans (hz.mono hb.size)⟩
     ·have e5 : eqTys v.tys u.tys = false := by simp [eqTys, h5]
      have HC2 : Hid (∀ w', Below W2.heap.size W2 w' -> Calls Try.prog 96 #[.slice A2 l2 c2, .slice A2' l2' c2'] w' fun e w2 => e = .returned (.bool false) /\ Below w'.heap.size w' w2) := Zi fun w' hw => by have := HCS.out w' hw; rwa [e5] at this
      obtain rfl : B = false := HBF.out (fun e => h5 (HEV.out.1 e).2.2.2.2.1)
      clear h1 h2 h3 h4 h5 e4 e5 HCT HCS HTY HTY' HEV HBF HB
      have hz := Below.refl W2.heap.size W2
      go_upto_region 1 with fail
      apply Zl
      refine Zm ?_
      refine Zo rfl (vk (by assumption) (by assumption)) ?_
      refine Zm ?_
      refine Zo rfl (vk (by assumption) (by assumption)) ?_
      iterate 3 refine Zm ?_
      refine Zo rfl (vn (by assumption) (by assumption)) ?_
      refine Zm ?_
      refine Zo rfl (vn (by assumption) (by assumption)) ?_
      iterate 4 refine Zm ?_
      refine Zo rfl (vs (by assumption) (by assumption)) ?_
      refine Zm ?_
      refine Zo rfl (vs (by assumption) (by assumption)) ?_
      iterate 4 refine Zm ?_
      refine Zw rfl (vt (by assumption) (by assumption)) ?_
      refine Zm ?_
      refine Zw rfl (vt (by assumption) (by assumption)) ?_
      refine Zn (HC1.out _ hz) ?_; rintro e w7 ⟨rfl, hb7⟩; refine ⟨_, rfl, ?_⟩; simp only [Zq]
      replace hp := below_look hb7 hp; replace hq := below_look hb7 hq; replace hz := hz.trans (hb7.mono hz.size); clear hb7
      iterate 3 refine Zm ?_
      refine Zo rfl (vts (by assumption) (by assumption)) ?_
      refine Zm ?_
      refine Zo rfl (vts (by assumption) (by assumption)) ?_
      refine Zn (HC2.out _ hz) ?_; rintro e w8 ⟨rfl, hb8⟩; refine ⟨_, rfl, ?_⟩; simp only [Zq]
      replace hp := below_look hb8 hp; replace hq := below_look hb8 hq; replace hz := hz.trans (hb8.mono hz.size); clear hb8
      iterate 2 refine Zm ?_
      iterate 5 ((first | ((with_reducible refine wl_skipU ?_ ?_ ?_); exact rfl; exact rfl) | ((with_reducible refine wl_skip ?_ ?_); exact rfl; simp only [Zq])))
      iterate 2 refine Zm ?_
      go_wp2_with fail
      go_ret
      exact ⟨rfl, hb.trans (hz.mono hb.size)⟩
    ·have e4 : eqTy v.typ u.typ = false := by simp [eqTy, h4]
     have HC1 : Hid (∀ w', Below W2.heap.size W2 w' -> Calls Try.prog 58 #[.agg tr, .agg tr'] w' fun e w2 => e = .returned (.bool false) /\ Below w'.heap.size w' w2) := Zi fun w' hw => by have := HCT.out w' hw; rwa [e4] at this
     obtain rfl : B = false := HBF.out (fun e => h4 (HEV.out.1 e).2.2.2.1)
     clear h1 h2 h3 h4 e4 HCT HTY HTY' HEV HBF HB
     have hz := Below.refl W2.heap.size W2
     go_upto_region 1 with fail
     apply Zl
     refine Zm ?_
     refine Zo rfl (vk (by assumption) (by assumption)) ?_
     refine Zm ?_
     refine Zo rfl (vk (by assumption) (by assumption)) ?_
     iterate 3 refine Zm ?_
     refine Zo rfl (vn (by assumption) (by assumption)) ?_
     refine Zm ?_
     refine Zo rfl (vn (by assumption) (by assumption)) ?_
     iterate 4 refine Zm ?_
     refine Zo rfl (vs (by assumption) (by assumption)) ?_
     refine Zm ?_
     refine Zo rfl (vs (by assumption) (by assumption)) ?_
     iterate 4 refine Zm ?_
     refine Zw rfl (vt (by assumption) (by assumption)) ?_
     refine Zm ?_
     refine Zw rfl (vt (by assumption) (by assumption)) ?_
     refine Zn (HC1.out _ hz) ?_; rintro e w7 ⟨rfl, hb7⟩; refine ⟨_, rfl, ?_⟩; simp only [Zq]
     replace hp := below_look hb7 hp; replace hq := below_look hb7 hq; replace hz := hz.trans (hb7.mono hz.size); clear hb7
     iterate 2 refine Zm ?_
     iterate 5 ((first | ((with_reducible refine wl_skipU ?_ ?_ ?_); exact rfl; exact rfl) | ((with_reducible refine wl_skip ?_ ?_); exact rfl; simp only [Zq])))
     iterate 2 refine Zm ?_
     iterate 5 ((first | ((with_reducible refine wl_skipU ?_ ?_ ?_); exact rfl; exact rfl) | ((with_reducible refine wl_skip ?_ ?_); exact rfl; simp only [Zq])))
     iterate 2 refine Zm ?_
     go_wp2_with fail
     go_ret
     exact ⟨rfl, hb.trans (hz.mono hb.size)⟩
   ·have e3 : (v.txt.toList == u.txt.toList) = false := beq_eq_false_iff_ne.2 (fun e => h3 (bytes_inj e))
    obtain rfl : B = false := HBF.out (fun e => h3 (HEV.out.1 e).2.2.1)
    clear h1 h2 h3
    go_upto_region 1 with fail
    apply Zl
    refine Zm ?_
    refine Zo rfl (vk (by assumption) (by assumption)) ?_
    refine Zm ?_
    refine Zo rfl (vk (by assumption) (by assumption)) ?_
    iterate 3 refine Zm ?_
    refine Zo rfl (vn (by assumption) (by assumption)) ?_
    refine Zm ?_
    refine Zo rfl (vn (by assumption) (by assumption)) ?_
    iterate 4 refine Zm ?_
    refine Zo rfl (vs (by assumption) (by assumption)) ?_
    refine Zm ?_
    refine Zo rfl (vs (by assumption) (by assumption)) ?_
    iterate 3 refine Zm ?_
    iterate 5 ((first | ((with_reducible refine wl_skipU ?_ ?_ ?_); exact rfl; exact rfl) | ((with_reducible refine wl_skip ?_ ?_); exact rfl; simp only [Zq])))
    iterate 2 refine Zm ?_
    iterate 5 ((first | ((with_reducible refine wl_skipU ?_ ?_ ?_); exact rfl; exact rfl) | ((with_reducible refine wl_skip ?_ ?_); exact rfl; simp only [Zq])))
    iterate 2 refine Zm ?_
    iterate 5 ((first | ((with_reducible refine wl_skipU ?_ ?_ ?_); exact rfl; exact rfl) | ((with_reducible refine wl_skip ?_ ?_); exact rfl; simp only [Zq])))
    iterate 2 refine Zm ?_
    go_wp2_with fail
    go_ret
    exact ⟨rfl, hb⟩
  ·have e2 : (v.num == u.num) = false := beq_eq_false_iff_ne.2 h2
   obtain rfl : B = false := HBF.out (fun e => h2 (HEV.out.1 e).2.1)
   clear h1 h2
   go_upto_region 1 with fail
   apply Zl
   refine Zm ?_
   refine Zo rfl (vk (by assumption) (by assumption)) ?_
   refine Zm ?_
   refine Zo rfl (vk (by assumption) (by assumption)) ?_
   iterate 3 refine Zm ?_
   refine Zo rfl (vn (by assumption) (by assumption)) ?_
   refine Zm ?_
   refine Zo rfl (vn (by assumption) (by assumption)) ?_
   iterate 3 refine Zm ?_
   iterate 5 ((first | ((with_reducible refine wl_skipU ?_ ?_ ?_); exact rfl; exact rfl) | ((with_reducible refine wl_skip ?_ ?_); exact rfl; simp only [Zq])))
   iterate 2 refine Zm ?_
   iterate 5 ((first | ((with_reducible refine wl_skipU ?_ ?_ ?_); exact rfl; exact rfl) | ((with_reducible refine wl_skip ?_ ?_); exact rfl; simp only [Zq])))
   iterate 2 refine Zm ?_
   iterate 5 ((first | ((with_reducible refine wl_skipU ?_ ?_ ?_); exact rfl; exact rfl) | ((with_reducible refine wl_skip ?_ ?_); exact rfl; simp only [Zq])))
   iterate 2 refine Zm ?_
   iterate 5 ((first | ((with_reducible refine wl_skipU ?_ ?_ ?_); exact rfl; exact rfl) | ((with_reducible refine wl_skip ?_ ?_); exact rfl; simp only [Zq])))
   iterate 2 refine Zm ?_
   go_wp2_with fail
   go_ret
   exact ⟨rfl, hb⟩
 ·have e1 : (v.kind == u.kind) = false := beq_eq_false_iff_ne.2 h1
  obtain rfl : B = false := HBF.out (fun e => h1 (HEV.out.1 e).1)
  clear h1
  go_upto_region 1 with fail
  apply Zl
  refine Zm ?_
  refine Zo rfl (vk (by assumption) (by assumption)) ?_
  refine Zm ?_
  refine Zo rfl (vk (by assumption) (by assumption)) ?_
  iterate 2 refine Zm ?_
  iterate 5 ((first | ((with_reducible refine wl_skipU ?_ ?_ ?_); exact rfl; exact rfl) | ((with_reducible refine wl_skip ?_ ?_); exact rfl; simp only [Zq])))
  iterate 2 refine Zm ?_
  iterate 5 ((first | ((with_reducible refine wl_skipU ?_ ?_ ?_); exact rfl; exact rfl) | ((with_reducible refine wl_skip ?_ ?_); exact rfl; simp only [Zq])))
  iterate 2 refine Zm ?_
  iterate 5 ((first | ((with_reducible refine wl_skipU ?_ ?_ ?_); exact rfl; exact rfl) | ((with_reducible refine wl_skip ?_ ?_); exact rfl; simp only [Zq])))
  iterate 2 refine Zm ?_
  iterate 5 ((first | ((with_reducible refine wl_skipU ?_ ?_ ?_); exact rfl; exact rfl) | ((with_reducible refine wl_skip ?_ ?_); exact rfl; simp only [Zq])))
  iterate 2 refine Zm ?_
  iterate 5 ((first | ((with_reducible refine wl_skipU ?_ ?_ ?_); exact rfl; exact rfl) | ((with_reducible refine wl_skip ?_ ?_); exact rfl; simp only [Zq])))
  iterate 2 refine Zm ?_
  go_wp2_with fail
  go_ret
  exact ⟨rfl, hb⟩
theorem EqValues_any (ts us : List Va) (A A' : Option Addr) (l c l' c' : Nat) (w : World) (D D' : Nat -> Prop) (h : VsAt w D ts A l c) (h' : VsAt w D' us A' l' c') :
  Calls Try.prog 59 #[.slice A l c, .slice A' l' c'] w fun e w' => e = .returned (.bool (eqVas ts us)) /\ Below w.heap.size w w' := EqValues_of ts us (fun t _ => EqValue_any t) A A' l c l' c' w D D' h h'
theorem Has_any {w : World} {l : List ByteArray} {A : Option Addr} {n c : Nat} (h : SsAt w l A n) (hn : n <= 1000000) (s : ByteArray) : Calls Try.prog 107 #[.slice A n c, .string s] w fun e w' => ∃ z : Int, e = .returned (.int .i64 z) /\ (s ∈ l -> 0 <= z) /\ (s ∉ l -> z < 0) /\ Below w.heap.size w w' := by
 have HS := Zi h
 have HL := Zi h.len
 have hb := Below.refl w.heap.size w
 clear h
 go_enter Try.func107, Try.ntmps107
 go_upto_region 0 with fail
 apply Zl
 refine Zm ?_
 go_upto_region 1 with fail
 apply Zl
 refine Zm ?_
 go_wp2_with fail
 go_loopw [5] (fun i wr => ∃ j : Nat, j <= n /\ i = .int .i64 (j : Int) /\ Hid (∀ k, k < j -> l[k]? ≠ some s) /\ Below w.heap.size w wr) (fun i _ => n - (intOf i).toNat)
 case atStart => exact ⟨0, by omega, rfl, Zi (fun k hk => by omega), hb⟩
 case round =>
  clear hb
  obtain ⟨j, hj, rfl, HN, hb⟩ := hrel
  go_upto_region 2 with fail
  by_cases hlt : j < n
  ·have hltI : (j : Int) < (n : Int) := by omega
   have hjl : j < l.length := by rw [HL.out]; exact hlt
   have hs := List.getElem?_eq_getElem hjl
   obtain ⟨u, hue⟩ : ∃ u, u = l[j] := ⟨_, rfl⟩
   rw [<- hue] at hs
   obtain ⟨b, off, rfl, hcell⟩ := (HS.out.below hb).el j u hs
   have HLD := Zi (one_of u9d rfl hcell)
   have HU := Zi hs
   clear hs hue hcell hjl
   apply Zl
   iterate 4 refine Zm ?_
   go_upto_region 4 with fail
   by_cases he : u = s
   ·have e1 : (u.toList == s.toList) = true := beq_iff_eq.2 (by rw [he])
    apply Zl
    iterate 3 refine Zm ?_
    refine Zo rfl (HLD.out) ?_
    iterate 2 refine Zm ?_
    have HI : Hid (s ∈ l) := Zi (by have := HU.out; rw [he] at this; exact List.mem_of_getElem? this)
    clear he
    go_upto_region 5 with fail
    apply Zl
    iterate 2 refine Zm ?_
    go_wp2_with fail
    go_ret
    exact ⟨(j : Int), rfl, fun _ => by omega, fun hx => absurd HI.out hx, hb⟩
   ·have e1 : (u.toList == s.toList) = false := beq_eq_false_iff_ne.2 (fun e => he (bytes_inj e))
    apply Zl
    iterate 3 refine Zm ?_
    refine Zo rfl (HLD.out) ?_
    iterate 2 refine Zm ?_
    have HN2 : Hid (∀ k, k < j + 1 -> l[k]? ≠ some s) := Zi (fun k hk hx => by
     rcases Nat.lt_or_ge k j with h1 | h1
     ·exact HN.out k h1 hx
     ·have : k = j := by omega
      rw [this, HU.out] at hx
      cases hx; exact he rfl)
    clear he HN
    go_wp2_with fail
    go_roundw
    case rel => exact ⟨j + 1, by omega, by go_num, HN2, hb⟩
    case measure => simp [intOf]; omega
  ·have hltI : ¬ (j : Int) < (n : Int) := by omega
   have HI : Hid (s ∉ l) := Zi (fun hx => by
    obtain ⟨k, hk⟩ := List.mem_iff_getElem?.1 hx
    have hkl := (List.getElem?_eq_some_iff.1 hk).1
    have := HL.out
    exact HN.out k (by omega) hk)
   apply Zl
   iterate 4 refine Zm ?_
   go_upto_region 6 with fail
   apply Zl
   refine Zm ?_
   go_wp2_with fail
   go_ret
   exact ⟨-1, rfl, fun hx => absurd hx HI.out, fun _ => by omega, hb⟩
theorem info125b : (Try.prog.info? 125).map (fun i => (i.zero, i.size, i.bytes)) = some (some (.agg (drow zrow)), 12, 160) := by kernel_rfl
theorem u102d : Try.prog.underlying 102 = some (.slice 125) := by kernel_rfl
theorem elt102 : Elt 102 125 12 160 (drow zrow) := by obtain ⟨i, a, b, c, d⟩ := info_parts info125b; exact ⟨u102d, by decide, rfl, i, _, a, b, c, d, rfl⟩
theorem drow_one {rv : Array Value} (h : rv.all (·.oneCell') = true) : (drow rv).all (·.oneCell') = true := by
 unfold drow
 rw [Array.all_append, Array.all_append, h]
 simp [Value.oneCell']
def TkR (w : World) (D : Nat -> Prop) (l : List Va) (rows : List (Array Value)) : Prop := rows.length = l.length /\ ∀ (j : Nat) (v : Va) (row : Array Value), l[j]? = some v -> rows[j]? = some row -> ∃ rv, VAt w D v rv /\ row = drow rv
end Go.Proofs.Ytpamocglecangaa
