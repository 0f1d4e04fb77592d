/- The program's Next. -/
import Derived.Deep.LoopGhost
import Derived.Deep.Cut
import Derived.Deep.CutBlock
import Derived.Test.YtpamocglecangaaPB20
namespace Go.Proofs.Ytpamocglecangaa
open Go.RowKit Go.Proofs.Ytpamocglecangaa.Nm
set_option linter.unusedSimpArgs false
theorem runN_snoc (m : Nat) (h : Hp) (ts : List Tk) (t : Tk) : runN (m + 1) h (ts ++ [t]) = match (stepV' h ts t).2.2 with
    | some v => ((stepV' h ts t).1, (stepV' h ts t).2.1, some v)
    | none => runN m (stepV' h ts t).1 (stepV' h ts t).2.1 := by
  simp only [runN, List.getLast?_concat, List.dropLast_concat]
  cases (stepV' h ts t).2.2 <;> rfl
theorem runN_nil (m : Nat) (h : Hp) : runN m h [] = (h, [], none) := by
  cases m with
  | zero => rfl
  | succ m => rfl
theorem sl85 : Try.prog.underlying 85 = some (.slice (Try.prog.elem 85)) := by kernel_rfl
theorem sl98 : Try.prog.underlying 98 = some (.slice (Try.prog.elem 98)) := by kernel_rfl
theorem sz85 (w : World) : (sizeOf (Try.prog.elem 85)).run Try.prog w = .ok 1 w := by kernel_rfl
theorem sz98 (w : World) : (sizeOf (Try.prog.elem 98)).run Try.prog w = .ok 12 w := by kernel_rfl
theorem ex_head {ev : Operand → Value} {o : Oper} {w : World} {ty : TypeId} {sz : Nat} (hu : Try.prog.underlying ty = some (.slice (Try.prog.elem ty))) (hs : (sizeOf (Try.prog.elem ty)).run Try.prog w = .ok sz w) (x y : Operand) (ho : o.op = .slice ty x none (some y) none) {g l c n : Nat}
    (hx : ev x = .slice (some ⟨g, 0, none⟩) l c) (hy : ev y = .int .i64 (n : Int)) (hn : n ≤ c) : (execOp ev o).run Try.prog w = .ok (.value (.slice (some ⟨g, 0, none⟩) n c)) w := by
  have h1 := run_slice_h (P := Try.prog) w ty (some ⟨g, 0, none⟩) l c hu .i64 (n : Int) (by omega) (by omega)
  have h2 := run_sliceAt_slice (P := Try.prog) w ty (.slice (some ⟨g, 0, none⟩) l c) none (some (.int .i64 (n : Int))) none hu
  rw [h1, hs] at h2
  unfold execOp
  simp only [ho, Option.map_none, Option.map_some, hx, hy, h2, Sem.run_bind, Sem.run_pure, Result.andThen_ok]
  simp [sliced, Addr.add]
theorem Done.step {w W w' : World} {G G1 : Gh} {k p : Nat} {h h' : Hp} (d : Done w G k p h W G1) {g : Nat} (hg : Mine G1 k g) (hk : Keep (fun b => b = g) W w') (hh : HeapAt w' G1 k p h') : Done w G k p h' w' G1 :=
  d.trans ⟨hh, d.fr.on hk.size, fun b _ => rfl, fun b hb => .inl (d.fr b hb), (Keep.refl _ W).trans (C' := fun b => b = g) (fun b e => .inl (by rw [e]; exact hg)) hk⟩
theorem ex_all101 {o : Oper} (ho : o.op = .alloc 101) (ev : Operand → Value) (w : World) : (execOp ev o).run Try.prog w = .ok (.value (.pointer (some ⟨w.heap.size, 0, none⟩))) (w.alloc (.cells zrow12 101)) := by
  unfold execOp
  simp only [ho]
  kernel_rfl
def ValB (w : World) (G : Gh) (k p : Nat) (r : Hp × Va × Bool) (e : Ending) (w' : World) : Prop := ∃ G' row, e = .returned (.tuple #[.agg row, .bool r.2.2]) ∧ VAt w' (Imm G') r.2.1 row ∧ Done w G k p r.1 w' G'
/-- Where the loop stands: tasks ts of heap hc, m steps at most. -/
structure NextL (w : World) (G : Gh) (k p r : Nat) (low : List (List Tk)) (res : Hp × List Tk × Option Va) (n : Nat) (wr : World) (hc : Hp) (ts : List Tk) (G1 : Gh) (m : Nat) : Prop where
  wt : weight hc ts = n
  le : n ≤ m
  run : runN m hc ts = res
  wf : Wf hc
  wfT : WfT hc ts
  dn : Done w G k p (hc.setL (low ++ [ts])) wr G1
  rr : G1 r = some (k, .tmp)
  rb : wr.heap[r]? = some (.cells zrow 35 (0, 0))
  max : n ≤ 700000000000
  fl : ∀ o, o ∈ hc.obs → o.fields.length ≤ 1000000000
/-- Behind a task: what is left on the level, and whether a deinit is due. -/
def CutN (wr : World) (G1 : Gh) (k p q : Nat) (hc : Hp) (low : List (List Tk)) (last : Array Value) (ts1 : List Tk) (t : Tk) (A2 : Option Addr) (c2 l2 : Nat) (b : Bool) (wx : World) : Prop :=
  ∃ G2 rv2 xs, TopD wr G1 k p ((stepV' hc ts1 t).1.setL low) last (stepV' hc ts1 t).2.1 A2 c2 wx G2 ∧ G2 q = some (k, .tmp) ∧ wx.heap[q]? = some (.cells (rv2 ++ xs) 101 (0, 0)) ∧ rv2.size = 9 ∧ (∀ u, (stepV' hc ts1 t).2.2 = some u → VAt wx (Imm G2) u rv2) ∧ l2 = (stepV' hc ts1 t).2.1.length ∧ b = (stepV' hc ts1 t).2.2.isSome
set_option maxHeartbeats 16000000 in
set_option maxRecDepth 100000 in
theorem Next_any {G : Gh} {k p : Nat} {h : Hp} {w : World} (hh : HeapAt w G k p h) (hf : Fr w G) (hw : Wf h) (hmax : ∀ l, h.lev.getLast? = some l → weight h l ≤ 700000000000) (hfl : ∀ o, o ∈ h.obs → o.fields.length ≤ 1000000000) :
    Calls Try.prog 26 #[.pointer (some ⟨p, 0, none⟩)] w (ValB w G k p (nextP h)) := by
  have HX := Lib.hid hh
  have HF := Lib.hid hf
  have HWF := Lib.hid hw
  have HMX := Lib.hid hmax
  have HFL := Lib.hid hfl
  have zone : zrow.all (·.oneCell') = true := (zero_va w (Imm G)).one
  have hzs : zrow.size = 9 := rfl
  have hb := Below.refl w.heap.size w
  clear hh hf hw hmax hfl
  go_enter Try.func26, Try.ntmps26
  go_upto_region 0 with (fail)
  apply wp_region_lit
  (with_reducible refine wl_allV ?_); intro W r hbn hlr hr; replace hb := hb.trans (hbn.mono hb.size); clear hbn; simp only [put_lit, List.set_cons_zero, List.set_cons_succ]
  (with_reducible refine wl_k ?_ ?_); exact rfl; intro K hK; go_simp; refine hK _ ?_; clear hK K
  have hrl : w.heap.size ≤ r := by omega
  have HRl := Lib.hid hrl
  have HDn := Lib.hid (Done.marked HX.out HF.out hb hrl (heap_lt hr))
  have HM := Lib.hid (mark_same G k r)
  clear HX HF hb hrl
  obtain ⟨oA, oc, bA, bc, m, lA, lc, hh⟩ := HDn.out.heap
  have HH := Lib.hid hh
  have hp := hh.blk
  clear hh
  obtain ⟨ll, hll⟩ : ∃ l, l = h.lev.length := ⟨_, rfl⟩
  rw [← hll] at hp
  have HLL := Lib.hid hll
  clear hll
  go_upto_region 1 with (fail)
  by_cases c0 : ll = 0
  · have e0 : ((ll : Int) == 0) = true := by simp [c0]
    have HE : Hid (nextP h = (h, va0, false)) := Lib.hid (by
      have : h.lev = [] := List.length_eq_zero_iff.1 (by rw [← HLL.out]; exact c0)
      unfold nextP
      rw [this]; rfl)
    apply wp_region_lit
    (with_reducible refine wl_k ?_ ?_); exact rfl; intro K hK; go_simp; refine hK _ ?_; clear hK K
    (with_reducible refine wl_k ?_ ?_); exact rfl; intro K hK; go_simp; refine hK _ ?_; clear hK K
    (with_reducible refine wl_k ?_ ?_); exact rfl; intro K hK; go_simp; refine hK _ ?_; clear hK K
    (with_reducible refine wl_k ?_ ?_); exact rfl; intro K hK; go_simp; refine hK _ ?_; clear hK K
    (with_reducible refine wl_k ?_ ?_); exact rfl; intro K hK; go_simp; refine hK _ ?_; clear hK K
    (with_reducible refine wl_k ?_ ?_); exact rfl; intro K hK; go_simp; refine hK _ ?_; clear hK K
    ((with_reducible apply wl_oneG); exact rfl; exact rfl; exact h3 hp)
    (with_reducible refine wl_k ?_ ?_); exact rfl; intro K hK; go_simp; refine hK _ ?_; clear hK K
    (with_reducible refine wl_k ?_ ?_); exact rfl; intro K hK; go_simp; refine hK _ ?_; clear hK K
    (with_reducible refine wl_k ?_ ?_); exact rfl; intro K hK; go_simp; refine hK _ ?_; clear hK K
    clear c0 e0
    go_upto_region 2 with (fail)
    apply wp_region_lit
    refine wl_w rfl (build35 _ _ rfl _) ?_
    simp only [put_lit, List.set_cons_zero, List.set_cons_succ]
    (with_reducible refine wl_putV rfl zone hzs rfl rfl hr ?_); rw [put_noneA]; intro W10 hbx hsz hkx hnx
    have HDn2 := Lib.hid (HDn.out.put HM.out HRl.out (Keep.of_put hbx hsz hkx))
    clear hbx hsz hkx
    (with_reducible refine wl_k ?_ ?_); exact rfl; intro K hK; go_simp; refine hK _ ?_; clear hK K
    go_wp2_with fail
    refine bodyPost_ret (res35t rfl _ _ r rfl rfl rfl hnx) rfl ?_
    rw [HE.out]
    exact ⟨_, zrow, rfl, zero_va _ _, HDn2.out⟩
  · have e0 : ((ll : Int) == 0) = false := by rw [beq_eq_false_iff_ne]; omega
    apply wp_region_lit
    (with_reducible refine wl_k ?_ ?_); exact rfl; intro K hK; go_simp; refine hK _ ?_; clear hK K
    (with_reducible refine wl_k ?_ ?_); exact rfl; intro K hK; go_simp; refine hK _ ?_; clear hK K
    (with_reducible refine wl_k ?_ ?_); exact rfl; intro K hK; go_simp; refine hK _ ?_; clear hK K
    (with_reducible refine wl_k ?_ ?_); exact rfl; intro K hK; go_simp; refine hK _ ?_; clear hK K
    (with_reducible refine wl_k ?_ ?_); exact rfl; intro K hK; go_simp; refine hK _ ?_; clear hK K
    (with_reducible refine wl_k ?_ ?_); exact rfl; intro K hK; go_simp; refine hK _ ?_; clear hK K
    ((with_reducible apply wl_oneG); exact rfl; exact rfl; exact h3 hp)
    (with_reducible refine wl_k ?_ ?_); exact rfl; intro K hK; go_simp; refine hK _ ?_; clear hK K
    (with_reducible refine wl_k ?_ ?_); exact rfl; intro K hK; go_simp; refine hK _ ?_; clear hK K
    (with_reducible refine wl_k ?_ ?_); exact rfl; intro K hK; go_simp; refine hK _ ?_; clear hK K
    clear e0
    obtain ⟨ts0, hts0⟩ : ∃ ts0, h.lev.getLast? = some ts0 := by
      cases hl : h.lev.getLast? with
      | none => exact absurd (by rw [HLL.out, List.getLast?_eq_none_iff.1 hl]; rfl) c0
      | some l => exact ⟨l, rfl⟩
    obtain ⟨low, hlow⟩ : ∃ low, low = h.lev.dropLast := ⟨_, rfl⟩
    have hlev : h.lev = low ++ [ts0] := by
      rw [hlow]
      rw [List.getLast?_eq_some_iff] at hts0
      obtain ⟨l', e⟩ := hts0
      rw [e]; simp
    obtain ⟨nl, hnl⟩ : ∃ nl, nl = low.length := ⟨_, rfl⟩
    have hll1 : ll = nl + 1 := by rw [HLL.out, hlev, List.length_append, hnl]; rfl
    subst hll1
    have hmxl : nl + 1 ≤ maxLen := by
      obtain ⟨rows, ho, hl, -⟩ := HH.out.lev
      have h5 := ho.cap
      have h6 := ho.max
      have h7 := HLL.out
      omega
    obtain ⟨res, hres⟩ : ∃ res, res = runN (weight h ts0) h ts0 := ⟨_, rfl⟩
    have HRES : Hid (nextP h = match res.2.2 with
      | some v => ({ res.1 with lev := low ++ [res.2.1] }, v, true)
      | none => ({ res.1 with lev := low }, va0, false)) := Lib.hid (by
      unfold nextP
      rw [hts0, hres, hlow]
      simp only
      cases (runN (weight h ts0) h ts0).2.2 <;> rfl)
    have HL0 : Hid (∃ G1 m, NextL w G k p r low res (weight h ts0) W h ts0 G1 m) := Lib.hid ⟨mark G k r, weight h ts0, rfl, Nat.le_refl _, hres.symm, HWF.out, (fun t ht => HWF.out.tsk ts0 (List.mem_of_getLast? hts0) t ht), (by
      have e : h.setL (low ++ [ts0]) = h := by rw [← hlev]; rfl
      rw [e]; exact HDn.out), HM.out, hr, HMX.out ts0 hts0, HFL.out⟩
    have hw1 : IntKind.i64.wrap (nl : Int) = (nl : Int) := IntWalk.i64_in _ (by unfold maxLen at hmxl; omega)
    have HNL := Lib.hid hnl
    clear hres hts0 hlow hlev hnl c0 hmxl
    go_upto_region 3 with (fail)
    apply wp_region_lit
    (with_reducible refine wl_k ?_ ?_); exact rfl; intro K hK; go_simp; refine hK _ ?_; clear hK K
    (with_reducible refine wl_k ?_ ?_); exact rfl; intro K hK; go_simp; refine hK _ ?_; clear hK K
    (with_reducible refine wl_k ?_ ?_); exact rfl; intro K hK; go_simp; refine hK _ ?_; clear hK K
    ((with_reducible apply wl_oneG); exact rfl; exact rfl; exact h3 hp)
    (with_reducible refine wl_k ?_ ?_); exact rfl; intro K hK; go_simp; refine hK _ ?_; clear hK K
    (with_reducible refine wl_k ?_ ?_); exact rfl; intro K hK; go_simp; refine hK _ ?_; clear hK K
    (with_reducible refine wl_k ?_ ?_); exact rfl; intro K hK; go_simp; refine hK _ ?_; clear hK K
    clear hp HH HDn HM hr
    go_wp2_with fail
    go_loopg [] (weight h ts0) (fun n wr => ∃ hc ts G1 m, NextL w G k p r low res n wr hc ts G1 m)
    case atStart =>
      obtain ⟨G1, m, h9⟩ := HL0.out
      exact ⟨h, ts0, G1, m, h9⟩
    case round =>
      clear HL0
      obtain ⟨hc, ts, G1, m', hn⟩ := hrel
      obtain ⟨oA, oc, bA, bc, m, lA, lc, hh⟩ := hn.dn.heap
      obtain ⟨tA, tc, gl, rfl, hgl, htop, htks, hone⟩ := hh.top
      have hp := htop.blk
      rw [show (hc.setL low).lev.length = nl from HNL.out.symm] at hp
      rw [← HNL.out] at hone htks
      have HN := Lib.hid hn
      have HT := Lib.hid htop
      have HK := Lib.hid htks
      have HG := Lib.hid hgl
      have HONE := Lib.hid hone
      have hnl1 : (nl : Int) < (nl : Int) + 1 := by omega
      have hr := hn.rb
      clear hn hh hgl htop htks hone
      go_upto_region 4 with (fail)
      rcases List.eq_nil_or_concat ts with e | ⟨ts1, t, e⟩
      · subst e
        apply wp_region_lit
        (with_reducible refine wl_k ?_ ?_); exact rfl; intro K hK; go_simp; refine hK _ ?_; clear hK K
        (with_reducible refine wl_k ?_ ?_); exact rfl; intro K hK; go_simp; refine hK _ ?_; clear hK K
        (with_reducible refine wl_k ?_ ?_); exact rfl; intro K hK; go_simp; refine hK _ ?_; clear hK K
        ((with_reducible apply wl_oneG); exact rfl; exact rfl; exact h3 hp)
        (with_reducible refine wl_k ?_ ?_); exact rfl; intro K hK; go_simp; refine hK _ ?_; clear hK K
        (with_reducible refine wl_k ?_ ?_); exact rfl; intro K hK; go_simp; refine hK _ ?_; clear hK K
        ((with_reducible apply wl_oneG); exact rfl; exact rfl; exact HONE.out _ rfl)
        (with_reducible refine wl_k ?_ ?_); exact rfl; intro K hK; go_simp; refine hK _ ?_; clear hK K
        (with_reducible refine wl_k ?_ ?_); exact rfl; intro K hK; go_simp; refine hK _ ?_; clear hK K
        have HRS : Hid (nextP h = (hc.setL low, va0, false)) := Lib.hid (by
          have h5 := HN.out.run
          rw [runN_nil] at h5
          rw [HRES.out, ← h5]
          rfl)
        go_upto_region 20 with (fail)
        apply wp_region_lit
        (with_reducible refine wl_k ?_ ?_); exact rfl; intro K hK; go_simp; refine hK _ ?_; clear hK K
        (with_reducible refine wl_k ?_ ?_); exact rfl; intro K hK; go_simp; refine hK _ ?_; clear hK K
        (with_reducible refine wl_k ?_ ?_); exact rfl; intro K hK; go_simp; refine hK _ ?_; clear hK K
        (with_reducible refine wl_k ?_ ?_); exact rfl; intro K hK; go_simp; refine hK _ ?_; clear hK K
        ((with_reducible apply wl_oneG); exact rfl; exact rfl; exact h3 hp)
        (with_reducible refine wl_k ?_ ?_); exact rfl; intro K hK; go_simp; refine hK _ ?_; clear hK K
        have hnlc : nl ≤ lc := by
          obtain ⟨rows, ho, hl, -⟩ := HT.out.lev
          have h5 := ho.cap
          have h6 := HNL.out
          rw [List.length_append, hl] at h5
          have h7 : (hc.setL low).lev.length = low.length := rfl
          rw [h7] at h5
          simp at h5
          omega
        refine wl_val rfl (ex_head sl85 (sz85 _) _ _ rfl rfl rfl hnlc) ?_
        simp only [put_lit, List.set_cons_zero, List.set_cons_succ]
        (with_reducible refine wl_k ?_ ?_); exact rfl; intro K hK; go_simp; refine hK _ ?_; clear hK K
        (with_reducible refine wl_k ?_ ?_); exact rfl; intro K hK; go_simp; refine hK _ ?_; clear hK K
        obtain ⟨hs1, hs2, -⟩ := hdr_set (j := 3) (v := .slice (some ⟨gl, 0, none⟩) nl lc) hp
        have hs1 := hs1 (by omega)
        have hdr := HT.out.drop
        rw [show (hc.setL low).lev.length = nl from HNL.out.symm] at hdr
        refine wl_storeC rfl 85 _ _ rfl p 3 (.slice (some ⟨gl, 0, none⟩) nl lc) rfl rfl info85 rfl hs1 hs2 ?_
        rw [put_noneA]
        have hd2 := HN.out.dn.step (h' := hc.setL low) ⟨.hdr, HT.out.rp, by simp⟩ (Keep.cellOne wr p 3 (.slice (some ⟨gl, 0, none⟩) nl lc)) ⟨_, _, _, _, _, _, _, hdr⟩
        have hrp : r ≠ p := fun e => by have h5 := HN.out.rr; rw [e, HT.out.rp] at h5; cases h5
        have hr2 := (heap_setCell_other wr ⟨p, 3, none⟩ r (.slice (some ⟨gl, 0, none⟩) nl lc) hrp).trans hr
        have HD2 := Lib.hid hd2
        have HR1 := Lib.hid HN.out.rr
        obtain ⟨W2, hW⟩ : ∃ W, W = wr.setCell ⟨p, 3, none⟩ (.slice (some ⟨gl, 0, none⟩) nl lc) := ⟨_, rfl⟩
        rw [← hW] at HD2 hr2 ⊢
        clear hd2 hr hp hs1 hs2 hdr hW HN HT HK hrp
        go_upto_region 21 with (fail)
        apply wp_region_lit
        refine wl_w rfl (build35 _ _ rfl _) ?_
        simp only [put_lit, List.set_cons_zero, List.set_cons_succ]
        (with_reducible refine wl_putV rfl zone hzs rfl rfl hr2 ?_); rw [put_noneA]; intro W10 hbx hsz hkx hnx
        have HD3 := Lib.hid (HD2.out.put HR1.out HRl.out (Keep.of_put hbx hsz hkx))
        clear hbx hsz hkx hr2
        (with_reducible refine wl_k ?_ ?_); exact rfl; intro K hK; go_simp; refine hK _ ?_; clear hK K
        go_wp2_with fail
        refine bodyPost_ret (res35t rfl _ _ r rfl rfl rfl hnx) rfl ?_
        rw [HRS.out]
        exact ⟨_, zrow, rfl, zero_va _ _, HD3.out⟩
      · rw [List.concat_eq_append] at e
        subst e
        obtain ⟨n1, hn1⟩ : ∃ n1, n1 = ts1.length := ⟨_, rfl⟩
        have hl1 : (ts1 ++ [t]).length = n1 + 1 := by rw [List.length_append, hn1]; rfl
        have HL1 := Lib.hid hl1
        have HN1 := Lib.hid hn1
        rw [hl1] at HONE HT
        have hc1 : (n1 : Int) + 1 > 0 := by omega
        have hc2 : (n1 : Int) < (n1 : Int) + 1 := by omega
        have hntc : n1 + 1 ≤ tc ∧ n1 ≤ 700000000000 := by
          obtain ⟨rows, ho, hl, -⟩ := HK.out
          have h5 := ho.cap
          have h6 := weight_len (h := hc) (ts := ts1) (t := t)
          have h7 := HN.out.max
          have h8 := HN.out.wt
          have h9 := wT_pos hc t
          refine ⟨by omega, by omega⟩
        have hw2 : IntKind.i64.wrap (n1 : Int) = (n1 : Int) := IntWalk.i64_in _ (by omega)
        clear hn1 hl1
        apply wp_region_lit
        (with_reducible refine wl_k ?_ ?_); exact rfl; intro K hK; go_simp; refine hK _ ?_; clear hK K
        (with_reducible refine wl_k ?_ ?_); exact rfl; intro K hK; go_simp; refine hK _ ?_; clear hK K
        (with_reducible refine wl_k ?_ ?_); exact rfl; intro K hK; go_simp; refine hK _ ?_; clear hK K
        ((with_reducible apply wl_oneG); exact rfl; exact rfl; exact h3 hp)
        (with_reducible refine wl_k ?_ ?_); exact rfl; intro K hK; go_simp; refine hK _ ?_; clear hK K
        (with_reducible refine wl_k ?_ ?_); exact rfl; intro K hK; go_simp; refine hK _ ?_; clear hK K
        ((with_reducible apply wl_oneG); exact rfl; exact rfl; exact HONE.out _ rfl)
        (with_reducible refine wl_k ?_ ?_); exact rfl; intro K hK; go_simp; refine hK _ ?_; clear hK K
        (with_reducible refine wl_k ?_ ?_); exact rfl; intro K hK; go_simp; refine hK _ ?_; clear hK K
        go_upto_region 5 with (fail)
        apply wp_region_lit
        (with_reducible refine wl_k ?_ ?_); exact rfl; intro K hK; go_simp; refine hK _ ?_; clear hK K
        (with_reducible refine wl_k ?_ ?_); exact rfl; intro K hK; go_simp; refine hK _ ?_; clear hK K
        (with_reducible refine wl_k ?_ ?_); exact rfl; intro K hK; go_simp; refine hK _ ?_; clear hK K
        ((with_reducible apply wl_oneG); exact rfl; exact rfl; exact h3 hp)
        (with_reducible refine wl_k ?_ ?_); exact rfl; intro K hK; go_simp; refine hK _ ?_; clear hK K
        (with_reducible refine wl_k ?_ ?_); exact rfl; intro K hK; go_simp; refine hK _ ?_; clear hK K
        ((with_reducible apply wl_oneG); exact rfl; exact rfl; exact HONE.out _ rfl)
        (with_reducible refine wl_k ?_ ?_); exact rfl; intro K hK; go_simp; refine hK _ ?_; clear hK K
        obtain ⟨-, ga, row, rfl, hga, htk, hrs, hrow⟩ := HK.out.pop
        rw [← HN1.out] at hrow
        have hrow1 := hrow wr rfl
        go_upto_region 6 with (fail)
        apply wp_region_lit
        (with_reducible refine wl_k ?_ ?_); exact rfl; intro K hK; go_simp; refine hK _ ?_; clear hK K
        (with_reducible refine wl_k ?_ ?_); exact rfl; intro K hK; go_simp; refine hK _ ?_; clear hK K
        (with_reducible refine wl_k ?_ ?_); exact rfl; intro K hK; go_simp; refine hK _ ?_; clear hK K
        (with_reducible refine wl_k ?_ ?_); exact rfl; intro K hK; go_simp; refine hK _ ?_; clear hK K
        (with_reducible refine wl_k ?_ ?_); exact rfl; intro K hK; go_simp; refine hK _ ?_; clear hK K
        ((with_reducible apply wl_rowG); exact rfl; exact rfl; exact hrow1)
        have hz12 : zrow12.size = 12 := rfl
        have hb6 : Below wr.heap.size wr (wr.alloc (.cells zrow12 101)) := (Below.refl _ wr).alloc (Nat.le_refl _) _
        have hq0 : (wr.alloc (.cells zrow12 101)).heap[wr.heap.size]? = some (.cells zrow12 101 (0, 0)) := ha_new rfl
        refine wl_w rfl (ex_all101 rfl _ wr) ?_
        simp only [put_lit, List.set_cons_zero, List.set_cons_succ]
        obtain ⟨q, hqq⟩ : ∃ q, q = wr.heap.size := ⟨_, rfl⟩
        have hqe : wr.heap.size ≤ q := by omega
        obtain ⟨W5, hW5⟩ : ∃ W, W = wr.alloc (.cells zrow12 101) := ⟨_, rfl⟩
        rw [← hqq, ← hW5] at hq0 ⊢
        rw [← hW5] at hb6
        clear hW5 hqq
        have hone : row.all (·.oneCell') = true := by
          cases t with
          | val v => obtain ⟨rv, hva, e⟩ := htk; rw [e]; exact trow_one hva.one
          | flds o i => obtain ⟨rv, u, hva, e⟩ := htk; rw [e]; exact trow_one hva.one
        refine wl_storeN rfl 101 _ _ rfl info101 rfl rfl hrs hone hq0 (by rw [hz12]; omega) ?_
        rw [put_noneA, putN_all (by rw [hrs]; rfl)]
        have hq1 : (W5.setRow q row).heap[q]? = some (.cells row 101 (0, 0)) := hr_new hq0
        have hb7 : Below wr.heap.size wr (W5.setRow q row) := below_setRow hb6 hqe _
        obtain ⟨W6, hW6⟩ : ∃ W, W = W5.setRow q row := ⟨_, rfl⟩
        rw [← hW6] at hq1 hb7 ⊢
        have hd0 : TopD wr G1 k p (hc.setL low) #[.slice (some ⟨ga, 0, none⟩) (n1 + 1) tc] (ts1 ++ [t]) (some ⟨ga, 0, none⟩) tc wr G1 := ⟨⟨_, _, _, _, _, _, _, HT.out⟩, by rw [show (hc.setL low).lev.length = nl from HNL.out.symm]; exact HK.out, HN.out.dn.fr, fun _ _ => rfl, fun b hb => .inl (HN.out.dn.fr b hb), Keep.refl _ _⟩
        have hd1 := hd0.pop.marked hb7 hqe (heap_lt hq1)
        have HD := Lib.hid hd1
        have HQ := Lib.hid (mark_same G1 k q)
        have HQE := Lib.hid hqe
        have HTK : Hid (TkAt W6 (mark G1 k q) t row) := Lib.hid (by
          have hG : ∀ b, b < wr.heap.size → mark G1 k q b = G1 b := fun b hb => if_neg (by omega)
          exact (htk.regh hG).same fun b hb _ => hb7.block b hb)
        have hpw := below_look hb7 hp
        clear hd0 hd1 hb6 hb7 hq0 hW6 hrow hrow1 htk hone hz12 hga hqe hp
        have hp := hpw
        clear hpw
        go_upto_region 7 with (fail)
        apply wp_region_lit
        (with_reducible refine wl_k ?_ ?_); exact rfl; intro K hK; go_simp; refine hK _ ?_; clear hK K
        (with_reducible refine wl_k ?_ ?_); exact rfl; intro K hK; go_simp; refine hK _ ?_; clear hK K
        (with_reducible refine wl_k ?_ ?_); exact rfl; intro K hK; go_simp; refine hK _ ?_; clear hK K
        (with_reducible refine wl_k ?_ ?_); exact rfl; intro K hK; go_simp; refine hK _ ?_; clear hK K
        refine wl_val rfl (ex_head sl98 (sz98 _) _ _ rfl rfl rfl (by omega)) ?_
        simp only [put_lit, List.set_cons_zero, List.set_cons_succ]
        (with_reducible refine wl_k ?_ ?_); exact rfl; intro K hK; go_simp; refine hK _ ?_; clear hK K
        clear hc1 hc2 hw2
        go_upto_region 8 with (fail)
        apply wp_region_lit
        (with_reducible refine wl_k ?_ ?_); exact rfl; intro K hK; go_simp; refine hK _ ?_; clear hK K
        go_upto_region 9 with (fail)
        obtain ⟨sg, hsg, hst⟩ : ∃ sg : Int, OneAt W6 3 ⟨q, 11, none⟩ (.int .i64 sg) ∧ ((∃ v rv, t = .val v ∧ sg = 0 ∧ VAt W6 (Imm (mark G1 k q)) v rv ∧ row = rv ++ #[.int .i64 0, .int .i64 0, .int .i64 0]) ∨ ∃ o i rv, t = .flds o i ∧ sg = 1 ∧ rv.size = 9 ∧ row = rv ++ #[.int .i64 (o : Int), .int .i64 (i : Int), .int .i64 1]) := by
          have h5 := HTK.out
          cases t with
          | val v =>
            obtain ⟨rv, hva, e⟩ := h5
            exact ⟨0, by rw [e] at hq1; exact (tkI hq1 hva.size).2.2, .inl ⟨v, rv, rfl, rfl, hva, e⟩⟩
          | flds o i =>
            obtain ⟨rv, u, hva, e⟩ := h5
            exact ⟨1, by rw [e] at hq1; exact (tkI hq1 hva.size).2.2, .inr ⟨o, i, rv, rfl, rfl, hva.size, e⟩⟩
        have HST := Lib.hid hst
        clear hst HTK
        apply wp_region_lit
        (with_reducible refine wl_k ?_ ?_); exact rfl; intro K hK; go_simp; refine hK _ ?_; clear hK K
        ((with_reducible apply wl_oneG); exact rfl; exact rfl; exact hsg)
        simp only [put_lit, List.set_cons_zero, List.set_cons_succ]
        clear hsg
        go_upto_block 2 with (fail)
        go_cut [5, 7] (fun s5 s7 wx => ∃ A2 c2 l2 b, s5 = .slice A2 l2 c2 ∧ s7 = .bool b ∧ Hid (CutN wr G1 k p q hc low #[.slice (some ⟨ga, 0, none⟩) (n1 + 1) tc] ts1 t A2 c2 l2 b wx))
        case first =>
          rcases HST.out with ⟨v, rv, rfl, rfl, hva, rfl⟩ | ⟨o, i, rv, rfl, rfl, hrz, rfl⟩
          · have hov := (HN.out.wfT (.val v) (by simp)).1 v rfl
            have hcl := end_any HD.out hva hq1 HQ.out HQE.out hov (by rw [weight_setL, HN.out.wt]; exact HN.out.max)
            rw [← HN1.out, step_setL] at hcl
            have HC := Lib.hid hcl
            clear hva hov hcl HD HN
            go_upto_region 11 with (fail)
            apply wp_region_lit
            (with_reducible refine wl_k ?_ ?_); exact rfl; intro K hK; go_simp; refine hK _ ?_; clear hK K
            (with_reducible refine wl_k ?_ ?_); exact rfl; intro K hK; go_simp; refine hK _ ?_; clear hK K
            go_upto_region 10 with (fail)
            apply wp_region_lit
            (with_reducible refine wl_k ?_ ?_); exact rfl; intro K hK; go_simp; refine hK _ ?_; clear hK K
            (with_reducible refine wl_k ?_ ?_); exact rfl; intro K hK; go_simp; refine hK _ ?_; clear hK K
            (with_reducible refine wl_k ?_ ?_); exact rfl; intro K hK; go_simp; refine hK _ ?_; clear hK K
            (with_reducible refine wl_ck ?_ ?_); exact rfl; intro K hK; go_simp; refine ⟨_, _, ⟨rfl, rfl⟩, hK _ _ ⟨_, HC.out, ?_⟩⟩; clear hK K; rintro e w7 ⟨A7, c7, G7, rv7, rfl, hd7, hq7, hx7, hs7, hv7⟩; refine ⟨_, rfl, ?_⟩; simp only [put_lit, List.set_cons_zero, List.set_cons_succ]
            (with_reducible refine wl_k ?_ ?_); exact rfl; intro K hK; go_simp; refine hK _ ?_; clear hK K
            (with_reducible refine wl_k ?_ ?_); exact rfl; intro K hK; go_simp; refine hK _ ?_; clear hK K
            (with_reducible refine wl_k ?_ ?_); exact rfl; intro K hK; go_simp; refine hK _ ?_; clear hK K
            (with_reducible refine wl_k ?_ ?_); exact rfl; intro K hK; go_simp; refine hK _ ?_; clear hK K
            (with_reducible refine wl_k ?_ ?_); exact rfl; intro K hK; go_simp; refine hK _ ?_; clear hK K
            go_wp2_with fail
            go_meet
            exact ⟨A7, c7, _, _, rfl, rfl, Lib.hid ⟨G7, rv7, _, hd7, hq7, hx7, hs7, hv7, rfl, rfl⟩⟩
          · have hol := (HN.out.wfT (.flds o i) (by simp)).2 o i rfl
            have holI : (o : Int) < ((hc.setL low).obs.length : Int) := by
              show (o : Int) < (hc.obs.length : Int)
              omega
            obtain ⟨ob, hob⟩ : ∃ ob, hc.obs[o]? = some ob := ⟨_, List.getElem?_eq_getElem hol⟩
            have hflb := HN.out.fl ob (List.mem_of_getElem? hob)
            obtain ⟨oA2, oc2, bA2, bc2, m2, lA2, lc2, hh2⟩ := HD.out.heap
            obtain ⟨g, tr, fA, fc, rfl, hgr, hL, -, hLV, -⟩ := hh2.obj (i := o) (o := ob) hob
            have hpz := hh2.blk
            have HH := Lib.hid hh2
            have HL := Lib.hid hL
            have HLV := Lib.hid hLV
            have HGR := Lib.hid hgr
            have HOB := Lib.hid hob
            have HMX2 : Hid (weight hc (ts1 ++ [.flds o i]) ≤ 700000000000) := Lib.hid (by rw [HN.out.wt]; exact HN.out.max)
            clear hp HN hol hh2 hL hLV hgr hob
            go_upto_region 11 with (fail)
            apply wp_region_lit
            (with_reducible refine wl_k ?_ ?_); exact rfl; intro K hK; go_simp; refine hK _ ?_; clear hK K
            (with_reducible refine wl_k ?_ ?_); exact rfl; intro K hK; go_simp; refine hK _ ?_; clear hK K
            go_upto_region 12 with (fail)
            refine wp_region_belowAll mixed (by kernel_rfl) ?_
            (with_reducible refine wq_k ?_ ?_); exact rfl; intro K hK; go_simp; (with_reducible refine hK _ ?_); clear hK K
            (with_reducible refine wq_k ?_ ?_); exact rfl; intro K hK; go_simp; (with_reducible refine hK _ ?_); clear hK K
            (with_reducible refine wq_k ?_ ?_); exact rfl; intro K hK; go_simp; (with_reducible refine hK _ ?_); clear hK K
            ((with_reducible apply wq_one); exact rfl; exact rfl; intro w' hw'; exact h0 (below_look hw' hpz))
            (with_reducible refine wq_k ?_ ?_); exact rfl; intro K hK; go_simp; (with_reducible refine hK _ ?_); clear hK K
            ((with_reducible apply wq_one); exact rfl; exact rfl; intro w' hw'; exact (tkI (below_look hw' hq1) hrz).1)
            (with_reducible refine wq_k ?_ ?_); exact rfl; intro K hK; go_simp; (with_reducible refine hK _ ?_); clear hK K
            (with_reducible refine wq_k ?_ ?_); exact rfl; intro K hK; go_simp; (with_reducible refine hK _ ?_); clear hK K
            intro w8 hb8
            replace HD := Lib.hid (HD.out.quiet hb8)
            replace HH := Lib.hid (HH.out.old hb8)
            replace HLV := Lib.hid (HLV.out.moved (Keep.of (C := fun _ => False) hb8) (fun b e => e.elim) (fun _ _ => rfl))
            have HL9 := Lib.hid (fun w' hw => HL.out w' (hb8.trans (Below.mono hw hb8.size)))
            replace hq1 := below_look hb8 hq1
            replace hpz := below_look hb8 hpz
            clear hb8 HL
            have HL := HL9
            clear HL9
            go_upto_region 13 with (fail)
            refine wp_region_belowAll mixed (by kernel_rfl) ?_
            (with_reducible refine wq_k ?_ ?_); exact rfl; intro K hK; go_simp; (with_reducible refine hK _ ?_); clear hK K
            ((with_reducible apply wq_one); exact rfl; exact rfl; intro w' hw'; exact (tkI (below_look hw' hq1) hrz).2.1)
            (with_reducible refine wq_k ?_ ?_); exact rfl; intro K hK; go_simp; (with_reducible refine hK _ ?_); clear hK K
            (with_reducible refine wq_k ?_ ?_); exact rfl; intro K hK; go_simp; (with_reducible refine hK _ ?_); clear hK K
            (with_reducible refine wq_k ?_ ?_); exact rfl; intro K hK; go_simp; (with_reducible refine hK _ ?_); clear hK K
            ((with_reducible apply wq_one); exact rfl; exact rfl; intro w' hw'; exact (HL.out w' hw').f)
            (with_reducible refine wq_k ?_ ?_); exact rfl; intro K hK; go_simp; (with_reducible refine hK _ ?_); clear hK K
            (with_reducible refine wq_k ?_ ?_); exact rfl; intro K hK; go_simp; (with_reducible refine hK _ ?_); clear hK K
            intro w9 hb9
            replace HD := Lib.hid (HD.out.quiet hb9)
            replace HH := Lib.hid (HH.out.old hb9)
            replace HLV := Lib.hid (HLV.out.moved (Keep.of (C := fun _ => False) hb9) (fun b e => e.elim) (fun _ _ => rfl))
            have HL9 := Lib.hid (HL.out w9 hb9)
            replace hq1 := below_look hb9 hq1
            replace hpz := below_look hb9 hpz
            clear hb9 HL
            have HL := HL9
            clear HL9
            by_cases hif : i < ob.fields.length
            · have hifI : (i : Int) < (ob.fields.length : Int) := by omega
              have hwi : IntKind.i64.wrap ((i : Int) + 1) = (i : Int) + 1 := IntWalk.i64_in _ (by omega)
              obtain ⟨fb, u, rowu, rfl, hfb, hu, hua, hfbl, hrowu⟩ := HLV.out.atK hif
              have hus := hua.size
              have hu1 := hua.one
              have HSP : Hid (stepV' hc ts1 (.flds o i) = (hc, ts1 ++ [.flds o (i + 1), .val u], none)) := Lib.hid (by simp only [stepV', HOB.out, hu])
              have HUA := Lib.hid hua
              have HRU := Lib.hid hrowu
              have HFB := Lib.hid hfbl
              obtain ⟨rows, hor, hlr, hrr, hvr⟩ := HD.out.tks
              have HOR := Lib.hid hor
              have HLR := Lib.hid hlr
              have HRR := Lib.hid hrr
              have HVR := Lib.hid hvr
              have hlen : rows.length ≤ 700000000000 := by
                have h5 := HMX2.out
                have h6 := weight_len (h := hc) (ts := ts1) (t := .flds o i)
                omega
              have hCA : ∀ b, (some ⟨ga, 0, none⟩ : Option Addr) = some ⟨b, 0, none⟩ → (¬ Mine (mark G1 k q) k b ∨ mark G1 k q b = some (k, .lvl (hc.setL low).lev.length)) ∧ mark G1 k q b ≠ none := fun b e => by rw [HRR.out b e]; exact ⟨.inr rfl, by simp⟩
              have hnA : ∀ b y, mark G1 k q b = y → y ≠ some (k, .lvl (hc.setL low).lev.length) → ¬ (some ⟨ga, 0, none⟩ : Option Addr) = some ⟨b, 0, none⟩ := fun b y hy h5 e => h5 (hy.symm.trans (HRR.out b e))
              have HNQ := Lib.hid (hnA q _ HQ.out (by simp))
              have HNF := Lib.hid (hnA fb _ hfb (by simp))
              have HCA := Lib.hid hCA
              clear hor hlr hrr hvr hCA hnA hua hrowu hu hfb hfbl
              go_upto_region 14 with (fail)
              refine wp_region_Z (S := fun w' => Keep (fun b => (some ⟨ga, 0, none⟩ : Option Addr) = some ⟨b, 0, none⟩) w9 w') 18 mixed (Keep.of ((Below.refl _ _).drew)) (fun hS => ?_)
              have hbz : Below w9.heap.size w9 w9.drew := (Below.refl _ _).drew
              refine za_k (i := 0) rfl (by kernel_rfl) (by kernel_rfl) (by kernel_rfl) (by kernel_rfl) (fun _ _ _ _ h => h) hS rfl (fun K hK => ?_); go_simp; refine hK _ ?_; clear hK K; try simp only [put_lit, List.set_cons_zero, List.set_cons_succ]
              refine za_k (i := 1) rfl (by kernel_rfl) (by kernel_rfl) (by kernel_rfl) (by kernel_rfl) (fun _ _ _ _ h => h) hS rfl (fun K hK => ?_); go_simp; refine hK _ ?_; clear hK K; try simp only [put_lit, List.set_cons_zero, List.set_cons_succ]
              refine za_val (i := 2) rfl (by kernel_rfl) (by kernel_rfl) (by kernel_rfl) (by kernel_rfl) (fun _ _ _ h => h) hS rfl (fun w' hw' => ex_one rfl ((tkI (hw'.look hq1 HNQ.out) hrz).1)) ?_; try simp only [put_lit, List.set_cons_zero, List.set_cons_succ]
              refine za_k (i := 3) rfl (by kernel_rfl) (by kernel_rfl) (by kernel_rfl) (by kernel_rfl) (fun _ _ _ _ h => h) hS rfl (fun K hK => ?_); go_simp; refine hK _ ?_; clear hK K; try simp only [put_lit, List.set_cons_zero, List.set_cons_succ]
              refine za_val (i := 4) rfl (by kernel_rfl) (by kernel_rfl) (by kernel_rfl) (by kernel_rfl) (fun _ _ _ h => h) hS rfl (fun w' hw' => ex_one rfl ((tkI (hw'.look hq1 HNQ.out) hrz).2.1)) ?_; try simp only [put_lit, List.set_cons_zero, List.set_cons_succ]
              refine za_k (i := 5) rfl (by kernel_rfl) (by kernel_rfl) (by kernel_rfl) (by kernel_rfl) (fun _ _ _ _ h => h) hS rfl (fun K hK => ?_); go_simp; refine hK _ ?_; clear hK K; try simp only [put_lit, List.set_cons_zero, List.set_cons_succ]
              refine za_val (i := 6) rfl (by kernel_rfl) (by kernel_rfl) (by kernel_rfl) (by kernel_rfl) (fun _ _ _ h => h) hS rfl (fun w' hw' => ex_build101g _ _ _ rfl rfl rfl rfl) ?_; try simp only [put_lit, List.set_cons_zero, List.set_cons_succ]
              refine za_k (i := 7) rfl (by kernel_rfl) (by kernel_rfl) (by kernel_rfl) (by kernel_rfl) (fun _ _ _ _ h => h) hS rfl (fun K hK => ?_); go_simp; refine hK _ ?_; clear hK K; try simp only [put_lit, List.set_cons_zero, List.set_cons_succ]
              refine za_k (i := 8) rfl (by kernel_rfl) (by kernel_rfl) (by kernel_rfl) (by kernel_rfl) (fun _ _ _ _ h => h) hS rfl (fun K hK => ?_); go_simp; refine hK _ ?_; clear hK K; try simp only [put_lit, List.set_cons_zero, List.set_cons_succ]
              refine za_k (i := 9) rfl (by kernel_rfl) (by kernel_rfl) (by kernel_rfl) (by kernel_rfl) (fun _ _ _ _ h => h) hS rfl (fun K hK => ?_); go_simp; refine hK _ ?_; clear hK K; try simp only [put_lit, List.set_cons_zero, List.set_cons_succ]
              refine za_val (i := 10) rfl (by kernel_rfl) (by kernel_rfl) (by kernel_rfl) (by kernel_rfl) (fun _ _ _ h => h) hS rfl (fun w' hw' => ex_one rfl (HH.out.fldK HOB.out HL.out hw' HCA.out)) ?_; try simp only [put_lit, List.set_cons_zero, List.set_cons_succ]
              refine za_k (i := 11) rfl (by kernel_rfl) (by kernel_rfl) (by kernel_rfl) (by kernel_rfl) (fun _ _ _ _ h => h) hS rfl (fun K hK => ?_); go_simp; refine hK _ ?_; clear hK K; try simp only [put_lit, List.set_cons_zero, List.set_cons_succ]
              refine za_val (i := 12) rfl (by kernel_rfl) (by kernel_rfl) (by kernel_rfl) (by kernel_rfl) (fun _ _ _ h => h) hS rfl (fun w' hw' => ex_one rfl ((tkI (hw'.look hq1 HNQ.out) hrz).2.1)) ?_; try simp only [put_lit, List.set_cons_zero, List.set_cons_succ]
              refine za_k (i := 13) rfl (by kernel_rfl) (by kernel_rfl) (by kernel_rfl) (by kernel_rfl) (fun _ _ _ _ h => h) hS rfl (fun K hK => ?_); go_simp; refine hK _ ?_; clear hK K; try simp only [put_lit, List.set_cons_zero, List.set_cons_succ]
              refine za_val (i := 14) rfl (by kernel_rfl) (by kernel_rfl) (by kernel_rfl) (by kernel_rfl) (fun _ _ _ h => h) hS rfl (fun w' hw' => ex_row rfl (HRU.out _ (hw'.block fb HFB.out HNF.out))) ?_; try simp only [put_lit, List.set_cons_zero, List.set_cons_succ]
              refine za_val (i := 15) rfl (by kernel_rfl) (by kernel_rfl) (by kernel_rfl) (by kernel_rfl) (fun _ _ _ h => h) hS rfl (fun w' hw' => ex_build101v _ rfl hus rfl) ?_; try simp only [put_lit, List.set_cons_zero, List.set_cons_succ]
              refine za_new (i := 16) (v := fun q => .slice (some ⟨q, 0, none⟩) 2 2) (by kernel_rfl) rfl rfl (ex_bs98t _ _ rfl rfl rfl rfl (trow_size hus _ _ _)) (fun W hW => hS.trans (C' := fun _ => False) (fun b e => e.elim) (Keep.of hW)) ?_
              clear hS
              intro W10 q8 hbn hlq8 hq8 hS
              try simp only [put_lit, List.set_cons_zero, List.set_cons_succ]
              replace hbn := hbz.trans (hbn.mono hbz.size)
              replace HD := Lib.hid (HD.out.quiet hbn)
              replace HOR := Lib.hid (HOR.out.old hbn)
              replace HUA := Lib.hid (HUA.out.old hbn)
              replace HVR := Lib.hid (fun (j : Nat) (t : Tk) (row : Array Value) (e1 : ts1[j]? = some t) (e2 : rows[j]? = some row) => (HVR.out j t row e1 e2).same (fun b hl _ => hbn.block b hl))
              replace hq1 := below_look hbn hq1
              clear hbn hbz hpz HH HL HLV
              refine za_push2 (i := 17) elt98 (by kernel_rfl) rfl rfl _ _ rfl (show _ = Value.slice (some ⟨ga, 0, none⟩) rows.length tc by rw [HLR.out, ← HN1.out]; rfl) rfl HOR.out hq8 rfl (trow_size hus _ _ _) (by simp [Value.oneCell', zrow]) (trow_one hu1) (by omega) (by unfold maxLen; omega) (fun w' hk => hS.trans (C' := fun b => (some ⟨ga, 0, none⟩ : Option Addr) = some ⟨b, 0, none⟩) (fun b e => .inl e) hk) ?_
              clear hS
              intro A9 c9 W11 hown hk9 hA9 hS
              rw [HLR.out]
              try simp only [put_lit, List.set_cons_zero, List.set_cons_succ]
              replace hq1 := hk9.look hq1 HNQ.out
              have hql : q < W10.heap.size := by
                rcases Nat.lt_or_ge q W10.heap.size with h6 | h6
                · exact h6
                · have := HD.out.fr q h6
                  rw [HQ.out] at this; cases this
              have hG9 := own_again HRR.out hA9
              have mv : ∀ {u : Va} {row : Array Value}, VAt W10 (Imm (mark G1 k q)) u row → VAt W11 (Imm (own (mark G1 k q) A9 (k, .lvl (hc.setL low).lev.length))) u row := fun hv => hv.moved hk9 (fun b e => by rw [HRR.out b e]; simp) hG9
              obtain ⟨hd11, -⟩ := HD.out.push (ts' := ts1 ++ [.flds o (i + 1), .val u]) hk9 hA9 hown (by simp [HLR.out]) (fun j t row hj hrow => by
                by_cases e : j < ts1.length
                · rw [List.getElem?_append_left e] at hj
                  rw [List.getElem?_append_left (by rw [HLR.out]; exact e)] at hrow
                  have h5 := HVR.out j t row hj hrow
                  cases t with
                  | val u => obtain ⟨rv0, h6, h7⟩ := h5; exact ⟨rv0, mv h6, h7⟩
                  | flds o i => obtain ⟨rv0, u, h6, h7⟩ := h5; exact ⟨rv0, u, mv h6, h7⟩
                · rw [List.getElem?_append_right (by omega)] at hj
                  rw [List.getElem?_append_right (by rw [HLR.out]; omega), HLR.out] at hrow
                  match hz : j - ts1.length, hj, hrow with
                  | 0, hj, hrow => cases hj; cases hrow; exact ⟨zrow, va0, zero_va _ _, rfl⟩
                  | 1, hj, hrow => cases hj; cases hrow; exact ⟨rowu, mv HUA.out, rfl⟩)
              have HD11 := Lib.hid hd11
              have HQ11 : Hid (own (mark G1 k q) A9 (k, .lvl (hc.setL low).lev.length) q = some (k, .tmp)) := Lib.hid ((hG9 q hql).trans HQ.out)
              clear hown hk9 hA9 hd11 mv hG9 hql hq8 HD HOR HVR HUA hlen hus hu1
              refine za_1 (i := 18) (by kernel_rfl) rfl rfl hS (fun K hK => ?_); go_simp; refine hK _ ?_; clear hK K; try simp only [put_lit, List.set_cons_zero, List.set_cons_succ]
              clear hS
              refine za_done (by kernel_rfl) ?_ _
              go_wp2_with fail
              go_meet
              refine ⟨A9, c9, _, _, rfl, rfl, Lib.hid ?_⟩
              unfold CutN
              rw [HSP.out]
              exact ⟨_, rv, _, HD11.out, HQ11.out, hq1, hrz, (fun u e => by cases e), by simp, rfl⟩
            · have hifI : ¬ (i : Int) < (ob.fields.length : Int) := by omega
              obtain ⟨nf, hnf⟩ : ∃ nf, nf = ob.fields.length := ⟨_, rfl⟩
              obtain ⟨ob1, hob1⟩ : ∃ ob1 : Ob, ob1 = { ob with fields := List.replicate nf va0 } := ⟨_, rfl⟩
              obtain ⟨ob2, hob2⟩ : ∃ ob2 : Ob, ob2 = { ob1 with state := 3 } := ⟨_, rfl⟩
              have HSP : Hid (stepV' hc ts1 (.flds o i) = ({ hc with obs := hc.obs.set o ob2 }, ts1, none)) := Lib.hid (by
                have hno : ob.fields[i]? = none := List.getElem?_eq_none (by omega)
                simp only [stepV', HOB.out, hno, modify_at _ HOB.out]
                rw [hob2, hob1, hnf])
              have HNF := Lib.hid hnf
              have HB1 := Lib.hid hob1
              have HB2 := Lib.hid hob2
              have hff := HL.out.f
              rw [← hnf] at hff
              clear hob1 hob2 hnf
              go_upto_region 15 with (fail)
              apply wp_region_lit
              (with_reducible refine wl_k ?_ ?_); exact rfl; intro K hK; go_simp; refine hK _ ?_; clear hK K
              (with_reducible refine wl_k ?_ ?_); exact rfl; intro K hK; go_simp; refine hK _ ?_; clear hK K
              (with_reducible refine wl_k ?_ ?_); exact rfl; intro K hK; go_simp; refine hK _ ?_; clear hK K
              (with_reducible refine wl_k ?_ ?_); exact rfl; intro K hK; go_simp; refine hK _ ?_; clear hK K
              ((with_reducible apply wl_oneG); exact rfl; exact rfl; exact hff)
              (with_reducible refine wl_k ?_ ?_); exact rfl; intro K hK; go_simp; refine hK _ ?_; clear hK K
              refine wl_makeL elt33 rfl _ _ rfl (n := nf) (c := nf) rfl rfl (Nat.le_refl _) (by have := HNF.out; omega) (by have := HNF.out; unfold maxLen; omega) ?_
              intro W10 q5 hbn hle5 hlt5 hown5
              simp only [put_lit, List.set_cons_zero, List.set_cons_succ]
              have hd5 := HD.out.owned hbn (A0 := some ⟨q5, 0, none⟩) (r := .fld o) (fun g e => by cases e; exact ⟨hle5, hlt5⟩)
              obtain ⟨G5, hG5⟩ : ∃ G5, G5 = own (mark G1 k q) (some ⟨q5, 0, none⟩) (k, .fld o) := ⟨_, rfl⟩
              have hGo : ∀ b, b < w9.heap.size → G5 b = mark G1 k q b := by rw [hG5]; exact own_old fun g e => by cases e; exact hle5
              have hr5 : RoleOf G5 (some ⟨q5, 0, none⟩) (k, .fld o) := by rw [hG5]; exact own_role _ _ _
              rw [← hG5] at hd5
              have hgl9 : g < w9.heap.size := by
                obtain ⟨g'', rowsB, e, hR⟩ := HH.out.obs.rows (i := o) (o := ob) HOB.out
                cases e; exact hR.lt
              have hh5 := (HH.out.regh hGo).old hbn
              have hlv5 : ListV W10 G5 (k, .fld o) (List.replicate nf va0) (some ⟨q5, 0, none⟩) nf := ⟨List.replicate nf zrow, hown5, by simp, hr5, fun j v row hj hrj => by
                rw [List.eq_of_mem_replicate (List.mem_of_getElem? hj), List.eq_of_mem_replicate (List.mem_of_getElem? hrj)]
                exact zero_va _ _⟩
              obtain ⟨hs1, hs2, hst⟩ := hh5.newF (i := o) (o := ob) HOB.out hlv5
              rw [List.length_replicate] at hst
              have HG5g : Hid (G5 g = some (k, .arr)) := Lib.hid ((hGo g hgl9).trans HGR.out)
              have HQ5 : Hid (G5 q = some (k, .tmp)) := Lib.hid ((hGo q (heap_lt hq1)).trans HQ.out)
              replace hq1 := below_look hbn hq1
              replace HD := Lib.hid hd5
              clear hd5 hG5 hGo hr5 hgl9 hh5 hlv5 hown5 hbn HH HL HLV hff hpz hle5 hlt5
              (with_reducible refine wl_k ?_ ?_); exact rfl; intro K hK; go_simp; refine hK _ ?_; clear hK K
              (with_reducible refine wl_k ?_ ?_); exact rfl; intro K hK; go_simp; refine hK _ ?_; clear hK K
              refine wl_storeC rfl 33 _ _ rfl g (o * 8 + 7) (.slice (some ⟨q5, 0, none⟩) nf nf) rfl rfl info33e rfl hs1 hs2 ?_
              rw [put_noneA]
              rw [← HB1.out] at hst
              have hd6 := HD.out.step HG5g.out (by simp) (by simp) (h' := { hc.setL low with obs := hc.obs.set o ob1 }) rfl (Keep.cellOne _ g (o * 8 + 7) (.slice (some ⟨q5, 0, none⟩) nf nf)) ⟨_, _, _, _, _, _, _, hst⟩
              have hqg : q ≠ g := fun e => by have := HQ5.out; rw [e, HG5g.out] at this; cases this
              replace hq1 := (heap_setCell_other W10 ⟨g, o * 8 + 7, none⟩ q (.slice (some ⟨q5, 0, none⟩) nf nf) hqg).trans hq1
              obtain ⟨W11, hW⟩ : ∃ W, W = W10.setCell ⟨g, o * 8 + 7, none⟩ (.slice (some ⟨q5, 0, none⟩) nf nf) := ⟨_, rfl⟩
              rw [← hW] at hd6 hst hq1 ⊢
              have hol := (List.getElem?_eq_some_iff.1 HOB.out).1
              obtain ⟨hs3, hs4, -, hset⟩ := hst.stO (i := o) (o := ob1) (List.getElem?_set_self hol) 4 (by omega)
              have hst2 := hset 3 ob2 (by rw [HB2.out]) (by rw [HB2.out]) (by rw [HB2.out]; simp)
              replace HD := Lib.hid hd6
              clear hd6 hst hW hset hs1 hs2 hol
              go_upto_region 16 with (fail)
              apply wp_region_lit
              (with_reducible refine wl_k ?_ ?_); exact rfl; intro K hK; go_simp; refine hK _ ?_; clear hK K
              (with_reducible refine wl_k ?_ ?_); exact rfl; intro K hK; go_simp; refine hK _ ?_; clear hK K
              (with_reducible refine wl_k ?_ ?_); exact rfl; intro K hK; go_simp; refine hK _ ?_; clear hK K
              refine wl_storeC rfl 3 _ _ rfl g _ (.int .i64 3) rfl rfl info3 rfl hs3 hs4 ?_; rw [put_noneA]
              have hd7 := HD.out.step HG5g.out (by simp) (by simp) (h' := ({ hc with obs := hc.obs.set o ob2 } : Hp).setL low) rfl (Keep.cellOne _ g (o * 8 + 4) (.int .i64 3)) (by
                have e : ({ hc.setL low with obs := (hc.obs.set o ob1).set o ob2 } : Hp) = ({ hc with obs := hc.obs.set o ob2 } : Hp).setL low := by rw [List.set_set]; rfl
                rw [← e]
                exact ⟨_, _, _, _, _, _, _, hst2⟩)
              replace hq1 := (heap_setCell_other W11 ⟨g, o * 8 + 4, none⟩ q (.int .i64 3) hqg).trans hq1
              have HD7 := Lib.hid hd7
              clear hd7 hst2 hs3 hs4 HD
              go_wp2_with fail
              go_meet
              refine ⟨_, _, _, _, rfl, rfl, Lib.hid ?_⟩
              unfold CutN
              rw [HSP.out]
              exact ⟨_, rv, _, HD7.out, HQ5.out, hq1, hrz, (fun u e => by cases e), HN1.out, rfl⟩
        case rest =>
          obtain ⟨A2, c2, l2, bd, rfl, rfl, HC⟩ := hcut
          obtain ⟨G2, rv2, xs, hd, hq2, hx, hs, hv, hl2, hbd⟩ := HC.out
          obtain ⟨y, hy⟩ : ∃ y, y = stepV' hc ts1 t := ⟨_, rfl⟩
          rw [← hy] at hd hv hl2 hbd
          obtain ⟨oA2, oc2, bA2, bc2, m2, lA2, lc2, hh2⟩ := hd.heap
          have htk := hd.tks
          have hlev : (y.1.setL low).lev.length = nl := HNL.out.symm
          obtain ⟨g, rfl, hgr, hs1, hs2, hat⟩ := hh2.put htk
          have hpz := hh2.blk
          rw [hlev] at hs1 hs2 hat hpz
          rw [← hl2] at hat
          have hrl1 : r < wr.heap.size := heap_lt hr
          have hrg1 := HN.out.rr
          have hrG2 : G2 r = some (k, .tmp) := (hd.old r hrl1).trans hrg1
          have hrx := hd.keep.look hr (by rintro ⟨z, e, h5⟩; rw [hrg1] at e; cases e; exact h5 rfl)
          have hrg : r ≠ g := fun e => by rw [e, hgr] at hrG2; cases hrG2
          have hqg : q ≠ g := fun e => by rw [e, hgr] at hq2; cases hq2
          have hk9 := Keep.cellOne wc g nl (.slice A2 l2 c2)
          have hdn : Done wr G1 k p (y.1.setL (low ++ [y.2.1])) (wc.setCell ⟨g, nl, none⟩ (.slice A2 l2 c2)) G2 := ⟨⟨_, _, _, _, _, _, _, hat⟩, hd.fr.on hk9.size, hd.old, hd.new, hd.keep.trans (C' := fun b => b = g) (fun b e => hd.mine ⟨.lar, by rw [e]; exact hgr, by simp⟩) hk9⟩
          have hrx2 := (heap_setCell_other wc ⟨g, nl, none⟩ r (.slice A2 l2 c2) hrg).trans hrx
          have hqx2 := (heap_setCell_other wc ⟨g, nl, none⟩ q (.slice A2 l2 c2) hqg).trans hx
          have hva2 : ∀ u, y.2.2 = some u → VAt (wc.setCell ⟨g, nl, none⟩ (.slice A2 l2 c2)) (Imm G2) u rv2 := fun u e => (hv u e).keep hk9 fun b hb e => by unfold Imm at hb; rw [e, hgr] at hb; cases hb
          have HDN := Lib.hid (HN.out.dn.trans hdn)
          have HVA := Lib.hid hva2
          have HY := Lib.hid hy
          have HBD := Lib.hid hbd
          have HRG := Lib.hid hrG2
          clear hd hv hh2 htk hat hk9 hdn hva2 HC hx hq2 hlev hl2 hrl1 hrg1 hrx hrg hqg hgr hy hbd hrG2 hp hr HD HST hq1
          go_upto_region 17 with (fail)
          apply wp_region_lit
          (with_reducible refine wl_k ?_ ?_); exact rfl; intro K hK; go_simp; refine hK _ ?_; clear hK K
          (with_reducible refine wl_k ?_ ?_); exact rfl; intro K hK; go_simp; refine hK _ ?_; clear hK K
          (with_reducible refine wl_k ?_ ?_); exact rfl; intro K hK; go_simp; refine hK _ ?_; clear hK K
          ((with_reducible apply wl_oneG); exact rfl; exact rfl; exact h3 hpz)
          (with_reducible refine wl_k ?_ ?_); exact rfl; intro K hK; go_simp; refine hK _ ?_; clear hK K
          (with_reducible refine wl_k ?_ ?_); exact rfl; intro K hK; go_simp; refine hK _ ?_; clear hK K
          (with_reducible refine wl_k ?_ ?_); exact rfl; intro K hK; go_simp; refine hK _ ?_; clear hK K
          refine wl_storeC rfl 98 _ _ rfl g nl (.slice A2 l2 c2) rfl rfl info98 rfl hs1 hs2 ?_; rw [put_noneA]
          obtain ⟨W9, hW⟩ : ∃ W, W = wc.setCell ⟨g, nl, none⟩ (.slice A2 l2 c2) := ⟨_, rfl⟩
          rw [← hW] at HDN HVA hrx2 hqx2 ⊢
          clear hW hs1 hs2 hpz
          go_upto_region 18 with (fail)
          apply wp_region_lit
          (with_reducible refine wl_k ?_ ?_); exact rfl; intro K hK; go_simp; refine hK _ ?_; clear hK K
          cases hdue : y.2.2 with
          | some u =>
            have hb1 : bd = true := by rw [HBD.out, hdue]; rfl
            subst hb1
            have HVU := Lib.hid (HVA.out u hdue)
            have HRS : Hid (nextP h = (y.1.setL (low ++ [y.2.1]), u, true)) := Lib.hid (by
              have h5 := HN.out.run
              have h6 := HN.out.wt
              have h7 := HN.out.le
              have h8 := step_falls hc ts1 t
              obtain ⟨m3, rfl⟩ : ∃ m3, m' = m3 + 1 := ⟨m' - 1, by omega⟩
              rw [runN_snoc, ← HY.out, hdue] at h5
              rw [HRES.out, ← h5]
              rfl)
            have hu1 := HVU.out.one
            clear hdue HVA HN
            go_upto_region 19 with (fail)
            apply wp_region_lit
            (with_reducible refine wl_k ?_ ?_); exact rfl; intro K hK; go_simp; refine hK _ ?_; clear hK K
            ((with_reducible apply wl_rowG); exact rfl; exact rfl; exact tkRow35 hqx2 hs)
            (with_reducible refine wl_putV hs hu1 hzs rfl rfl hrx2 ?_); rw [put_noneA]; intro W10 hbx hsz hkx hnx
            have HK10 := Lib.hid (Keep.of_put hbx hsz hkx)
            clear hbx hsz hkx hrx2
            (with_reducible refine wl_k ?_ ?_); exact rfl; intro K hK; go_simp; refine hK _ ?_; clear hK K
            go_wp2_with fail
            refine bodyPost_ret (res35t rfl _ _ r rfl rfl hs hnx) rfl ?_
            rw [HRS.out]
            exact ⟨_, rv2, rfl, HVU.out.put HRG.out HK10.out, HDN.out.put HRG.out HRl.out HK10.out⟩
          | none =>
            have hb1 : bd = false := by rw [HBD.out, hdue]; rfl
            subst hb1
            have HDU := Lib.hid hdue
            clear hdue
            go_wp2_with fail
            have h8 := step_falls hc ts1 t
            rw [← HY.out] at h8
            have h6 := HN.out.wt
            go_roundg (weight y.1 y.2.1)
            case measure => omega
            case rel =>
              have h5 := HN.out.run
              have h7 := HN.out.le
              have h9 := HN.out.max
              obtain ⟨m3, rfl⟩ : ∃ m3, m' = m3 + 1 := ⟨m' - 1, by omega⟩
              rw [runN_snoc, ← HY.out, HDU.out] at h5
              have hwf := step_wf HN.out.wf HN.out.wfT
              rw [← HY.out] at hwf
              exact ⟨y.1, y.2.1, G2, m3, rfl, by omega, h5, hwf.1, hwf.2, HDN.out, HRG.out, hrx2, by omega, by rw [HY.out]; exact step_fl HN.out.fl⟩
end Go.Proofs.Ytpamocglecangaa
