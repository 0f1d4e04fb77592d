/- The program's Append. -/
import Derived.Test.YtpamocglecangaaPB9
namespace Go.Proofs.Ytpamocglecangaa
open Go.RowKit Go.Proofs.Ytpamocglecangaa.Nm
set_option linter.unusedSimpArgs false
section
variable {w w' : World} {G : Gh} {k p : Nat} {h : Hp} {oA : Option Addr} {oc : Nat} {bA : Option Addr} {bc m : Nat} {lA : Option Addr} {lc : Nat}
/-- A buffer with an element more, behind the push and the store of its slice. -/
theorem HAt.growE {g i : Nat} (hh : HAt w G k p h oA oc (some ⟨g, 0, none⟩) bc m lA lc) {b : Bu} (hi : h.bus[i]? = some b) {fA : Option Addr} {fc : Nat} {rows : List (Array Value)} (hrl : rows.length = b.elems.length) (hra : RoleOf G fA (k, .elm i)) (hrv : ∀ (j : Nat) (v : Va) (row : Array Value), b.elems[j]? = some v → rows[j]? = some row → VAt w (Imm G) v row)
    {A' : Option Addr} {c' : Nat} {x : Va} {row : Array Value} (ho : OwnL w' 35 9 A' c' (rows ++ [row])) (hk : Keep (fun b => fA = some ⟨b, 0, none⟩) w w') (hA : A' = fA ∨ ∃ g, A' = some ⟨g, 0, none⟩ ∧ w.heap.size ≤ g) (hx : VAt w (Imm G) x row) :
    HAt (w'.setCell ⟨g, i * 2 + 1, none⟩ (.slice A' (rows.length + 1) c')) (own G A' (k, .elm i)) k p { h with bus := h.bus.set i { b with elems := b.elems ++ [x] } } oA oc (some ⟨g, 0, none⟩) bc m lA lc := by
  obtain ⟨g', rowsB, e, hR⟩ := hh.bus.rows hi
  cases e
  obtain ⟨rowb, fA0, fc0, hrb, hxb⟩ := hR.get hi
  have hG := own_again hra hA
  have hgl := hR.lt
  have hgr : own G A' (k, .elm i) g = some (k, .bar) := (hG g hgl).trans hR.role
  have hk2 := Keep.cellOne w' g (i * 2 + 1) (.slice A' (rows.length + 1) c')
  have hne : ∀ b r, b < w.heap.size → G b = some (k, r) → r ≠ .elm i → w'.heap[b]? = w.heap[b]? := fun b r hb e hr => hk.block b hb fun e2 => by have := hra b e2; rw [e] at this; cases this; exact hr rfl
  have hno : ∀ b, b < w.heap.size → G b = none → w'.heap[b]? = w.heap[b]? := fun b hb e => hk.block b hb fun e2 => by have := hra b e2; rw [e] at this; cases this
  have hs : ∀ b r, b < w.heap.size → own G A' (k, .elm i) b = some (k, r) → r ≠ .elm i → r ≠ .bar → (w'.setCell ⟨g, i * 2 + 1, none⟩ (.slice A' (rows.length + 1) c')).heap[b]? = w.heap[b]? := fun b r hb e h1 h2 => by
    rw [hk2.block b (by have := hk.size; omega) (fun e2 => by rw [e2, hgr] at e; cases e; exact h2 rfl)]
    exact hne b r hb ((hG b hb).symm.trans e) h1
  have hn : ∀ b, b < w.heap.size → own G A' (k, .elm i) b = none → (w'.setCell ⟨g, i * 2 + 1, none⟩ (.slice A' (rows.length + 1) c')).heap[b]? = w.heap[b]? := fun b hb e => by
    rw [hk2.block b (by have := hk.size; omega) (fun e2 => by rw [e2, hgr] at e; cases e)]
    exact hno b hb ((hG b hb).symm.trans e)
  have hg := hh.regh hG
  have hRg : BusR w (own G A' (k, .elm i)) k h.bus g bc rowsB := ⟨hR.own, hR.len, hgr, hgl, fun j o row h1 h2 => by
    obtain ⟨eA, ec, h3⟩ := hR.all j o row h1 h2
    exact ⟨eA, ec, h3.eq, h3.elm.regh hG⟩⟩
  have hown7 : OwnL w' 97 2 (some ⟨g, 0, none⟩) bc rowsB := hR.own.same fun b e hb => by cases e; exact hne g _ hb hR.role (by simp)
  refine hg.busC (by simp) (fun b hb e => ?_) hn ?_
  · obtain ⟨r, e1, e2, e3⟩ := e
    exact hs b r hb e1 (e3 i) e2
  · refine hRg.upd hi (row' := rowb.setIfInBounds 1 (.slice A' (rows.length + 1) c')) (eA' := A') (ec' := c') (fun j b hj hb e => hs b _ hb e (by simp [hj]) (by simp)) hn (hown7.set hrb (by omega) _) ⟨?_, rows ++ [row], ho.same (fun b e hb => hk2.block b hb fun e2 => ?_), by simp [hrl], own_role _ _ _, fun j v rw0 hj hr => ?_⟩
    · rw [hxb.eq]
      show #[_, _] = #[_, Value.slice A' (b.elems ++ [x]).length c']
      rw [List.length_append, hrl]; rfl
    · have := own_role G A' (k, .elm i) b e
      rw [e2, hgr] at this; cases this
    · have mv : ∀ {v : Va} {rw0 : Array Value}, VAt w (Imm G) v rw0 → VAt (w'.setCell ⟨g, i * 2 + 1, none⟩ (.slice A' (rows.length + 1) c')) (Imm (own G A' (k, .elm i))) v rw0 := fun hv => (hv.regh hG).mono (fun _ h => h) fun b hb hl => hn b hl hb
      rcases Nat.lt_trichotomy j b.elems.length with e | e | e
      · rw [List.getElem?_append_left (by omega)] at hj hr
        exact mv (hrv j v rw0 hj hr)
      · rw [e, List.getElem?_concat_length] at hj
        rw [e, ← hrl, List.getElem?_concat_length] at hr
        cases hj; cases hr
        exact mv hx
      · rw [List.getElem?_eq_none (by simp; omega)] at hj; cases hj
theorem Done.growE {W : World} {G1 : Gh} (d : Done w G k p h W G1) {g i : Nat} (hh : HAt W G1 k p h oA oc (some ⟨g, 0, none⟩) bc m lA lc) {b : Bu} (hi : h.bus[i]? = some b) {fA : Option Addr} {fc : Nat} {rows : List (Array Value)} (hrl : rows.length = b.elems.length) (hra : RoleOf G1 fA (k, .elm i)) (hrv : ∀ (j : Nat) (v : Va) (row : Array Value), b.elems[j]? = some v → rows[j]? = some row → VAt W (Imm G1) v row)
    {A' : Option Addr} {c' : Nat} {x : Va} {row : Array Value} (ho : OwnL w' 35 9 A' c' (rows ++ [row])) (hk : Keep (fun b => fA = some ⟨b, 0, none⟩) W w') (hA : A' = fA ∨ ∃ g, A' = some ⟨g, 0, none⟩ ∧ W.heap.size ≤ g) (hx : VAt W (Imm G1) x row) (hg : G1 g = some (k, .bar)) :
    Done w G k p { h with bus := h.bus.set i { b with elems := b.elems ++ [x] } } (w'.setCell ⟨g, i * 2 + 1, none⟩ (.slice A' (rows.length + 1) c')) (own G1 A' (k, .elm i)) :=
  d.trans ⟨⟨_, _, _, _, _, _, _, hh.growE hi hrl hra hrv ho hk hA hx (fc := fc)⟩, fun b hb => by
    have hb2 : w'.heap.size ≤ b := by simpa using hb
    unfold own
    split
    · rename_i e
      rcases ho.el with ⟨e1, -⟩ | ⟨g', cur, e1, hg', -⟩
      · rw [e1] at e; cases e
      · rw [e1] at e; cases e; have := heap_lt hg'; omega
    · exact d.fr b (by have := hk.size; omega), own_again hra hA, fun b hb => by
    unfold own
    split
    · exact .inr ⟨_, rfl⟩
    · exact .inl (d.fr b hb), ((Keep.refl _ W).trans (C' := fun b => fA = some ⟨b, 0, none⟩) (fun b e => .inl ⟨_, hra b e, by simp⟩) hk).trans (C' := fun b => b = g) (fun b e => .inl ⟨.bar, by rw [e]; exact hg, by simp⟩) (Keep.cellOne w' g (i * 2 + 1) _)⟩
end
theorem info33 : (Try.prog.info? 33).map (·.size) = some 1 := by kernel_rfl
/-- A buffer's slice, loaded while blocks of no concern change. -/
theorem elm_load {w w' : World} {G : Gh} {k p : Nat} {h : Hp} {oA : Option Addr} {oc : Nat} {bc m : Nat} {lA : Option Addr} {lc g n : Nat} (hh : HAt w G k p h oA oc (some ⟨g, 0, none⟩) bc m lA lc) {b : Bu} (hi : h.bus[n]? = some b) {fA : Option Addr} {fc : Nat} (hL : BuL w g n b fA fc) {C : Nat → Prop} (hk : Keep C w w') (hC : ¬ C g) : OneAt w' 33 ⟨g, n * 2 + 1, none⟩ (.slice fA b.elems.length fc) := by
  obtain ⟨g', rowsB, e, hR⟩ := hh.bus.rows hi
  cases e
  obtain ⟨rowb, fA0, fc0, hrb, hxb⟩ := hR.get hi
  have h1 := (hR.own.loadsB hrb hxb).e
  have h2 := one_eq h1 hL.e
  cases h2
  exact one_of u33 rfl ((hR.own.same (w' := w') fun b e hb => by cases e; exact hk.block g hb hC).cell hrb (j := 1) (by rw [hxb.eq]; rfl))
def appendP (h : Hp) (v x : Va) : Hp × Int := if aloneE h v x = 0 then (match h.bus[v.num.toNat]? with | some b => ({ h with bus := h.bus.set v.num.toNat { b with elems := b.elems ++ [x] } }, 0) | none => (h, 4)) else (h, aloneE h v x)
set_option maxHeartbeats 8000000 in
set_option maxRecDepth 100000 in
theorem Append_any {G : Gh} {k p : Nat} {h : Hp} {w : World} (hh : HeapAt w G k p h) (hf : Fr w G) (hle : ∀ b, b ∈ h.bus → b.elems.length ≤ 1000000) {v x : Va} {row rowx : Array Value} (hv : VAt w (Imm G) v row) (hx : VAt w (Imm G) x rowx) :
    Calls Try.prog 34 #[.pointer (some ⟨p, 0, none⟩), .agg row, .agg rowx] w (ErrOf w G k p (appendP h v x)) := by
  have HX := Lib.hid hh
  have HF := Lib.hid hf
  have HV := Lib.hid hv
  have HW := Lib.hid hx
  have HLE := Lib.hid hle
  have hvs := hv.size
  have hv1 := hv.one
  have hxs := hx.size
  have hx1 := hx.one
  have hb := Below.refl w.heap.size w
  clear hh hf hv hx hle
  go_enter Try.func34, Try.ntmps34
  go_upto_region 0 with (fail)
  apply wp_region_lit
  (with_reducible refine wl_boxV rfl ?_); intro W q hbn hlq hq; replace hb := hb.trans (hbn.mono hb.size); clear hbn; simp only [put_lit, List.set_cons_zero, List.set_cons_succ]
  have lthqq2 := heap_lt hq; (with_reducible refine wl_boxV rfl ?_); intro W1 q2 hbn hlq2 hq2; replace hq := below_look hbn hq; replace hb := hb.trans (hbn.mono hb.size); clear hbn; simp only [put_lit, List.set_cons_zero, List.set_cons_succ]
  (with_reducible refine wl_k ?_ ?_); exact rfl; intro K hK; go_simp; refine hK _ ?_; clear hK K
  have HQG : Hid (G q = none) := Lib.hid (HF.out q (by omega))
  have HQ2 : Hid (G q2 = none) := Lib.hid (HF.out q2 (by omega))
  have HDn := Lib.hid (Done.calm HX.out HF.out hb)
  replace HV := Lib.hid (HV.out.old hb)
  replace HW := Lib.hid (HW.out.old hb)
  clear HX HF hb
  obtain ⟨pe, hpe⟩ : ∃ z, z = aloneE h v x := ⟨_, rfl⟩
  have hc := alone_done HDn.out.heap HV.out HW.out
  rw [← hpe] at hc
  have HC := Lib.hid hc
  have HPE := Lib.hid hpe
  clear hc hpe
  go_upto_region 1 with (fail)
  apply wp_region_lit
  (with_reducible refine wl_k ?_ ?_); exact rfl; intro K hK; go_simp; refine hK _ ?_; clear hK K
  ((with_reducible apply wl_rowG); exact rfl; exact rfl; exact row35 hq hvs)
  ((with_reducible apply wl_rowG); exact rfl; exact rfl; exact row35 hq2 hxs)
  (with_reducible refine wl_ck ?_ ?_); exact rfl; intro K hK; go_simp; refine ⟨_, _, ⟨rfl, rfl⟩, hK _ _ ⟨_, HC.out, ?_⟩⟩; clear hK K; rintro e w8 ⟨rfl, hb8⟩; refine ⟨_, rfl, ?_⟩; simp only [put_lit, List.set_cons_zero, List.set_cons_succ]
  replace HW := Lib.hid (HW.out.old hb8)
  replace HDn := Lib.hid (HDn.out.quiet hb8); replace HV := Lib.hid (HV.out.old hb8); replace hq := below_look hb8 hq; replace hq2 := below_look hb8 hq2; clear hb8
  (with_reducible refine wl_k ?_ ?_); exact rfl; intro K hK; go_simp; refine hK _ ?_; clear hK K
  clear HC
  go_upto_region 2 with (fail)
  by_cases c0 : pe = 0
  · subst c0
    obtain ⟨n, o, hn, ho, -⟩ := alone0 HPE.out.symm
    have HD : Hid (appendP h v x = ({ h with bus := h.bus.set n { o with elems := o.elems ++ [x] } }, 0)) := Lib.hid (by unfold appendP; rw [← HPE.out, if_pos rfl, hn, Int.toNat_natCast, ho])
    apply wp_region_lit
    (with_reducible refine wl_k ?_ ?_); exact rfl; intro K hK; go_simp; refine hK _ ?_; clear hK K
    (with_reducible refine wl_k ?_ ?_); exact rfl; intro K hK; go_simp; refine hK _ ?_; clear hK K
    have hnl := (List.getElem?_eq_some_iff.1 ho).1
    have hnlI : (n : Int) < (h.bus.length : Int) := by omega
    obtain ⟨oA, oc, bA, bc, m, lA, lc, hh⟩ := HDn.out.heap
    obtain ⟨g, fA, fc, rfl, hgr, hL, ⟨rows, ho5, hlr, hor, hvr⟩, -⟩ := hh.buf ho
    have hol := HLE.out o (List.mem_of_getElem? ho)
    have HL := Lib.hid (hL w8 (Below.refl _ _))
    have HL2 := Lib.hid hL
    have HGR := Lib.hid hgr
    have HOO := Lib.hid ho
    have HH := Lib.hid hh
    have HO5 := Lib.hid ho5
    have HLR := Lib.hid hlr
    have HOR := Lib.hid hor
    have HVR := Lib.hid hvr
    have HN := Lib.hid hn
    have hp := hh.blk
    have hpG := hh.rp
    obtain ⟨trv, A2v, l2v, c2v, A3v, l3v, c3v, hrv⟩ := HV.out.row
    have HRV := Lib.hid hrv
    have hnf : ∀ b y, G b = y → y ≠ some (k, .elm n) → ¬ (fA = some ⟨b, 0, none⟩) := fun b y e hy e2 => by have := HOR.out b e2; rw [e] at this; exact hy this
    have HNP := Lib.hid (hnf p _ hpG (by simp))
    have HNQ := Lib.hid (hnf q _ HQG.out (by simp))
    have HNQ2 := Lib.hid (hnf q2 _ HQ2.out (by simp))
    have HNG := Lib.hid (hnf g _ hgr (by simp))
    have hglt : g < w8.heap.size := by
      obtain ⟨g', rowsB, e, hR⟩ := hh.bus.rows ho
      cases e; exact hR.lt
    have HGLT := Lib.hid hglt
    clear hL hh ho hrv hn ho5 hlr hor hvr hnf hglt hgr
    go_upto_region 4 with (fail)
    refine wp_region_Z (S := fun w' => Keep (fun b => fA = some ⟨b, 0, none⟩) w8 w') 12 mixed (Keep.of ((Below.refl _ _).drew)) (fun hS => ?_)
    have hbz : Below w8.heap.size w8 w8.drew := (Below.refl _ _).drew
    refine za_k (i := 0) rfl (by kernel_rfl) (by kernel_rfl) (by kernel_rfl) (by kernel_rfl) (fun _ _ _ _ h => h) hS rfl (fun K hK => ?_); go_simp; refine hK _ ?_; clear hK K; try simp only [put_lit, List.set_cons_zero, List.set_cons_succ]
    refine za_k (i := 1) rfl (by kernel_rfl) (by kernel_rfl) (by kernel_rfl) (by kernel_rfl) (fun _ _ _ _ h => h) hS rfl (fun K hK => ?_); go_simp; refine hK _ ?_; clear hK K; try simp only [put_lit, List.set_cons_zero, List.set_cons_succ]
    refine za_k (i := 2) rfl (by kernel_rfl) (by kernel_rfl) (by kernel_rfl) (by kernel_rfl) (fun _ _ _ _ h => h) hS rfl (fun K hK => ?_); go_simp; refine hK _ ?_; clear hK K; try simp only [put_lit, List.set_cons_zero, List.set_cons_succ]
    refine za_val (i := 3) rfl (by kernel_rfl) (by kernel_rfl) (by kernel_rfl) (by kernel_rfl) (fun _ _ _ h => h) hS rfl (fun w' hw' => ex_one rfl (h1 (hw'.look hp HNP.out))) ?_; try simp only [put_lit, List.set_cons_zero, List.set_cons_succ]
    refine za_k (i := 4) rfl (by kernel_rfl) (by kernel_rfl) (by kernel_rfl) (by kernel_rfl) (fun _ _ _ _ h => h) hS rfl (fun K hK => ?_); go_simp; refine hK _ ?_; clear hK K; try simp only [put_lit, List.set_cons_zero, List.set_cons_succ]
    refine za_val (i := 5) rfl (by kernel_rfl) (by kernel_rfl) (by kernel_rfl) (by kernel_rfl) (fun _ _ _ h => h) hS rfl (fun w' hw' => ex_one rfl (vnN (hw'.look hq HNQ.out) HRV HN)) ?_; try simp only [put_lit, List.set_cons_zero, List.set_cons_succ]
    refine za_k (i := 6) rfl (by kernel_rfl) (by kernel_rfl) (by kernel_rfl) (by kernel_rfl) (fun _ _ _ _ h => h) hS rfl (fun K hK => ?_); go_simp; refine hK _ ?_; clear hK K; try simp only [put_lit, List.set_cons_zero, List.set_cons_succ]
    refine za_k (i := 7) rfl (by kernel_rfl) (by kernel_rfl) (by kernel_rfl) (by kernel_rfl) (fun _ _ _ _ h => h) hS rfl (fun K hK => ?_); go_simp; refine hK _ ?_; clear hK K; try simp only [put_lit, List.set_cons_zero, List.set_cons_succ]
    refine za_val (i := 8) rfl (by kernel_rfl) (by kernel_rfl) (by kernel_rfl) (by kernel_rfl) (fun _ _ _ h => h) hS rfl (fun w' hw' => ex_one rfl (elm_load HH.out HOO.out HL.out hw' HNG.out)) ?_; try simp only [put_lit, List.set_cons_zero, List.set_cons_succ]
    refine za_val (i := 9) rfl (by kernel_rfl) (by kernel_rfl) (by kernel_rfl) (by kernel_rfl) (fun _ _ _ h => h) hS rfl (fun w' hw' => ex_row rfl (row35 (hw'.look hq2 HNQ2.out) hxs)) ?_; try simp only [put_lit, List.set_cons_zero, List.set_cons_succ]
    refine za_new (i := 10) (v := fun q => .slice (some ⟨q, 0, none⟩) 1 1) (by kernel_rfl) rfl rfl (ex_bsV _ rfl rfl hxs) (fun W hW => hS.trans (C' := fun _ => False) (fun b e => e.elim) (Keep.of hW)) ?_
    clear hS
    intro W8 q8 hbn hlq8 hq8 hS
    try simp only [put_lit, List.set_cons_zero, List.set_cons_succ]
    replace hbn := hbz.trans (hbn.mono hbz.size)
    replace HDn := Lib.hid (HDn.out.quiet hbn)
    replace HH := Lib.hid (HH.out.old hbn)
    replace HO5 := Lib.hid (HO5.out.old hbn)
    replace HVR := Lib.hid (fun (j : Nat) (v : Va) (row : Array Value) (e1 : o.elems[j]? = some v) (e2 : rows[j]? = some row) => (HVR.out j v row e1 e2).old hbn)
    replace HW := Lib.hid (HW.out.old hbn)
    replace hp := below_look hbn hp; replace hq := below_look hbn hq
    clear hbn hbz HL HL2
    refine za_pushL (i := 11) elt33 (by kernel_rfl) rfl rfl _ _ rfl (show _ = Value.slice fA rows.length fc by rw [HLR.out]; rfl) rfl HO5.out hq8 hxs hx1 (by have := HLR.out; omega) (by have := HLR.out; unfold maxLen; omega) (fun w' hk => hS.trans (C' := fun b => fA = some ⟨b, 0, none⟩) (fun b e => .inl e) hk) ?_
    clear hS
    intro A9 c9 W9 hown hk9 hA9 hS
    replace hp := hk9.look hp HNP.out
    replace hq := hk9.look hq HNQ.out
    have HOW := Lib.hid hown
    have HK9 := Lib.hid hk9
    have HA9 := Lib.hid hA9
    obtain ⟨nl, hnl2⟩ : ∃ z, z = rows.length + 1 := ⟨_, rfl⟩
    rw [← hnl2]
    have HNL := Lib.hid hnl2
    try simp only [put_lit, List.set_cons_zero, List.set_cons_succ]
    clear hown hk9 hA9 hnl2
    refine za_1 (i := 12) (by kernel_rfl) rfl rfl hS (fun K hK => ?_); go_simp; refine hK _ ?_; clear hK K; try simp only [put_lit, List.set_cons_zero, List.set_cons_succ]
    clear hS
    refine za_done (by kernel_rfl) ?_ _
    go_upto_region 5 with (fail)
    refine wp_region_below 9 mixed (by kernel_rfl) ?_; simp only [List.take_succ_cons, List.take_zero, List.drop_succ_cons, List.drop_zero]
    (with_reducible refine wq_k ?_ ?_); exact rfl; intro K hK; go_simp; (with_reducible refine hK _ ?_); clear hK K
    (with_reducible refine wq_k ?_ ?_); exact rfl; intro K hK; go_simp; (with_reducible refine hK _ ?_); clear hK K
    (with_reducible refine wq_k ?_ ?_); exact rfl; intro K hK; go_simp; (with_reducible refine hK _ ?_); clear hK K
    ((with_reducible apply wq_one); exact rfl; exact rfl; intro w' hw'; first | exact vk (below_look hw' (by with_reducible assumption)) (by with_reducible assumption) | exact vn (below_look hw' (by with_reducible assumption)) (by with_reducible assumption) | exact vl (below_look hw' (by with_reducible assumption)) (by with_reducible assumption) | exact h0 (below_look hw' (by with_reducible assumption)) | exact h1 (below_look hw' (by with_reducible assumption)) | exact h2 (below_look hw' (by with_reducible assumption)) | exact h3 (below_look hw' (by with_reducible assumption)))
    (with_reducible refine wq_k ?_ ?_); exact rfl; intro K hK; go_simp; (with_reducible refine hK _ ?_); clear hK K
    ((with_reducible apply wq_one); exact rfl; exact rfl; intro w' hw'; exact vnN (below_look hw' (by with_reducible assumption)) (by with_reducible assumption) (by with_reducible assumption))
    (with_reducible refine wq_k ?_ ?_); exact rfl; intro K hK; go_simp; (with_reducible refine hK _ ?_); clear hK K
    (with_reducible refine wq_k ?_ ?_); exact rfl; intro K hK; go_simp; (with_reducible refine hK _ ?_); clear hK K
    (with_reducible refine wq_k ?_ ?_); exact rfl; intro K hK; go_simp; (with_reducible refine hK _ ?_); clear hK K
    intro w10 hb10
    replace HOW := Lib.hid (HOW.out.old hb10)
    replace HK9 := Lib.hid (HK9.out.trans (C' := fun _ => False) (fun b e => e.elim) (Keep.of hb10))
    clear hp hq
    have hd := Done.growE HDn.out HH.out HOO.out HLR.out HOR.out HVR.out HOW.out HK9.out HA9.out HW.out HGR.out (fc := fc)
    rw [← HNL.out] at hd
    have HDN := Lib.hid hd
    obtain ⟨hs1, hs2⟩ : (w10.cell? ⟨g, n * 2 + 1, none⟩).isSome = true ∧ w10.frozen? ⟨g, n * 2 + 1, none⟩ = false := by
      obtain ⟨g', rowsB, e, hR⟩ := HH.out.bus.rows HOO.out
      cases e
      obtain ⟨rowb, fA0, fc0, hrb, -⟩ := hR.get HOO.out
      exact (hR.own.same (w' := w10) fun b e hb => by cases e; exact HK9.out.block g hb HNG.out).lies hrb (by omega)
    clear hd hb10
    refine wl_storeC rfl 33 _ _ rfl g (n * 2 + 1) (.slice A9 nl c9) rfl rfl info33 rfl hs1 hs2 ?_
    rw [put_noneA]
    clear hs1 hs2
    go_upto_region 6 with (fail)
    apply wp_region_lit
    (with_reducible refine wl_k ?_ ?_); exact rfl; intro K hK; go_simp; refine hK _ ?_; clear hK K
    go_wp2_with fail
    go_ret
    rw [HD.out]
    exact ⟨_, rfl, HDN.out⟩
  · have HD : Hid (appendP h v x = (h, pe)) := Lib.hid (by unfold appendP; rw [← HPE.out, if_neg c0])
    have h0b : (pe != 0) = true := by simp [c0]
    apply wp_region_lit
    (with_reducible refine wl_k ?_ ?_); exact rfl; intro K hK; go_simp; refine hK _ ?_; clear hK K
    (with_reducible refine wl_k ?_ ?_); exact rfl; intro K hK; go_simp; refine hK _ ?_; clear hK K
    clear c0
    go_upto_region 3 with (fail)
    apply wp_region_lit
    (with_reducible refine wl_k ?_ ?_); exact rfl; intro K hK; go_simp; refine hK _ ?_; clear hK K
    (with_reducible refine wl_k ?_ ?_); exact rfl; intro K hK; go_simp; refine hK _ ?_; clear hK K
    go_wp2_with fail
    go_ret
    rw [HD.out]
    exact ⟨_, rfl, HDn.out⟩
end Go.Proofs.Ytpamocglecangaa
