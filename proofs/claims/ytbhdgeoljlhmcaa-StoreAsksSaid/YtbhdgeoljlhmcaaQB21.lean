/- The document's store copied. The form of an operation by the document: uses, Name, dict, form. -/
import Derived.Outline
import Derived.Test.YtbhdgeoljlhmcaaQB20
import Derived.Test.YtbhdgeoljlhmcaaQB16
namespace Go.Proofs.Ytbhdgeoljlhmcaa
open Go.RowKit Go.Proofs.Ytbhdgeoljlhmcaa.Nm Go.Proofs.Ytbhdgeoljlhmcaa.St
set_option linter.unusedSimpArgs false
theorem built66c (A : Option Addr) (n c : Nat) (m s : Int) : Try.prog.built 66 [(0, .slice A n c), (2, .int .i64 m), (3, .int .i64 s)] = some (sc66 (.slice A n c) (.slice none 0 0) m s) := by kernel_rfl
theorem bufs_nil (w : World) (B : Nat) (nv : Value) : BufsAt w B nv (.slice none 0 0) [] := ⟨[], rfl, fun k cs h => by simp at h, own_nil _ _ _ _, fun k cs b h => by simp at h⟩
theorem takeSnoc {α : Type} {l : List α} {j : Nat} {x : α} (h : l[j]? = some x) : l.take (j + 1) = l.take j ++ [x] := by rw [List.take_add_one, h]; rfl
theorem kept_of {W w : World} (h : Below W.heap.size W w) : Kept [] W w := ⟨h.size, fun k hk _ => h.block k hk, h.os, h.tape, h.output⟩
theorem Nm.Kept.cellNew {D : List Nat} {p : Nat} {W w : World} (h : Kept D W w) (hm : W.heap.size ≤ p) (i : Nat) (v : Value) : Kept D W (w.setCell ⟨p, i, none⟩ v) :=
  have hb := (Below.refl 0 w).setCell (p := ⟨p, i, none⟩) (Nat.zero_le _) v
  ⟨Nat.le_trans h.1 hb.size, fun k hk hp => by rw [heap_setCell_other _ _ _ _ (fun e => by have : k = p := e; omega)]; exact h.2 k hk hp, hb.os.trans h.os, hb.tape.trans h.tape, hb.output.trans h.output⟩
set_option maxHeartbeats 4000000 in
set_option maxRecDepth 100000 in
theorem CloneI_any (v : Value) (A : Sto) (B : Nat) (hbl : A.bufs.length ≤ 100000) (hG : ∀ (k : Nat) (b : Buf), A.bufs[k]? = some b → b.t.length ≤ 100000 ∧ b.l.length ≤ 100000) (w : World) (h : DAt w B v A) :
    Calls Try.prog 64 #[v] w fun e w' => ∃ v', e = .returned v' ∧ DAt w' w.heap.size v' A ∧ Below w.heap.size w w' := by
  obtain ⟨nv, bv, rfl, hn, hbs⟩ := h
  obtain ⟨ys, hys⟩ := hbs.own
  obtain ⟨Av, cv, rfl⟩ := own_shape hys
  obtain ⟨p, c, rfl, -⟩ := own_p hn (by omega)
  have HN := Lib.hid hn
  have HBS := Lib.hid hbs
  have HG := Lib.hid hG
  obtain ⟨n, hnn⟩ : ∃ n, n = A.bufs.length := ⟨_, rfl⟩
  have HNN := Lib.hid hnn
  rw [← hnn] at hbl
  obtain ⟨M, hM⟩ : ∃ M, M = A.made := ⟨_, rfl⟩
  have HM := Lib.hid hM
  obtain ⟨sh, hsh⟩ : ∃ sh, sh = A.shared := ⟨_, rfl⟩
  have HSH := Lib.hid hsh
  rw [← hsh, ← hM, ← hnn]
  clear hn hbs hG hnn hys hM hsh
  go_enter Try.func64, Try.ntmps64
  go_upto_region 1 with (fail)
  have hb0 := ((Below.refl w.heap.size w).alloc (Nat.le_refl _) (.cells (sc66 (.slice (some ⟨p, 0, none⟩) 8 c) (.slice Av n cv) M sh) 66)).alloc (by simp) (.cells (sc66 (.slice none 0 0) (.slice none 0 0) 0 0) 66)
  refine wp_world (fun W => Below w.heap.size w W ∧ W.heap[w.heap.size]? = some (.cells (sc66 (.slice (some ⟨p, 0, none⟩) 8 c) (.slice Av n cv) M sh) 66 (0, 0)) ∧ W.heap[w.heap.size + 1]? = some (.cells (sc66 (.slice none 0 0) (.slice none 0 0) 0 0) 66 (0, 0))) ⟨hb0, ha_old (ha_new rfl), ha_new (by simp)⟩ ?_
  clear hb0
  rintro W ⟨hb, g1, g2⟩
  replace HN := Lib.hid (own_below HN.out hb)
  replace HBS := Lib.hid (HBS.out.below hb)
  obtain ⟨x0, x1, x2, x3⟩ := s66_cell g1
  have HG1 := Lib.hid g1
  have HG2 := Lib.hid g2
  have HB := Lib.hid hb
  have LG := heap_lt g2
  clear hb g1 g2
  rename_i K hK
  have tail : ∀ (pa : Nat) (P : Option Addr) (d : Nat) (t4 t5 t6 t7 t8 t9 t10 t11 t12 t13 t14 t15 t16 t17 t18 t19 t20 t21 t22 t23 t24 t25 t26 t27 t28 t29 t30 t31 : Value) (wz : World), W.heap.size ≤ pa → Hid (wz.ownsRow W.heap.size 3 1 (.slice P 8 d) 8 (ints (A.names.map numN))) → Hid (wz.heap[pa]? = some (.cells (sc66 (.slice P 8 d) (.slice none 0 0) M sh) 66 (0, 0))) → Hid (Below W.heap.size W wz) →
      K ⟨#[.agg (sc66 (.slice (some ⟨p, 0, none⟩) 8 c) (.slice Av n cv) M sh), .pointer (some ⟨w.heap.size, 0, none⟩), .pointer (some ⟨w.heap.size + 1, 0, none⟩), .pointer (some ⟨pa, 0, none⟩), t4, t5, t6, t7, t8, t9, t10, t11, t12, t13, t14, t15, t16, t17, t18, t19, t20, t21, t22, t23, t24, t25, t26, t27, t28, t29, t30, t31], []⟩ wz := by
    intro pa P d t4 t5 t6 t7 t8 t9 t10 t11 t12 t13 t14 t15 t16 t17 t18 t19 t20 t21 t22 t23 t24 t25 t26 t27 t28 t29 t30 t31 wz hpa HO HPA HW
    apply hK
    clear hK x0 x1 x2 x3
    go_wp2_with fail
    have HBN0 : Hid (BufsAt wz W.heap.size (.slice P 8 d) (.slice none 0 0) (A.bufs.take 0)) := Lib.hid (bufs_nil _ _ _)
    go_loopw [4] (fun i wr => ∃ (j : Nat) (vj : Value), j ≤ n ∧ i = .int .i64 (j : Int) ∧ Hid (wr.ownsRow W.heap.size 3 1 (.slice P 8 d) 8 (ints (A.names.map numN))) ∧ Hid (BufsAt wr W.heap.size (.slice P 8 d) vj (A.bufs.take j)) ∧ Hid (wr.heap[pa]? = some (.cells (sc66 (.slice P 8 d) vj M sh) 66 (0, 0))) ∧ Hid (Below W.heap.size W wr)) (fun i _ => n - (intOf i).toNat)
    case atStart => exact ⟨0, _, by omega, rfl, HO, HBN0, HPA, HW⟩
    case round =>
      clear HO HBN0 HPA HW
      obtain ⟨j, vj, hj, rfl, HO, HBJ, HPA, HW⟩ := hrel
      obtain ⟨q0, q1, q2, q3⟩ := s66_cell HPA.out
      obtain ⟨x0, x1, x2, x3⟩ := s66_cell (below_look HW.out HG1.out)
      by_cases hlt : j < n
      · have hltI : (j : Int) < (n : Int) := by omega
        obtain ⟨q, cap, cur, e, -, hcur, hall⟩ := HBS.out.cells (by rw [← HNN.out]; omega)
        have hAv : Av = some ⟨q, 0, none⟩ := by cases e; rfl
        clear e
        subst hAv
        obtain ⟨b, hbj⟩ : ∃ b, A.bufs[j]? = some b := ⟨_, List.getElem?_eq_getElem (by rw [← HNN.out]; exact hlt)⟩
        obtain ⟨lv, kv, vv, uv, hx, -, hR, -⟩ := hall j b hbj
        have hbG := HG.out j b hbj
        obtain ⟨x0, x1, x2, x3⟩ := s66_cell HG1.out
        have HX := Lib.hid hx
        clear hall q0 q1 q2 q3 hx
        go_upto_region 5 with (fail)
        rename_i K5 hK5
        have tail5 : ∀ (v9 : Value) (s13 s14 s15 s16 s17 s18 s19 s20 s21 s22 s23 s24 s25 s26 s27 s28 s29 s30 : Value) (wz : World), Hid (wz.ownsRow W.heap.size 3 1 (.slice P 8 d) 8 (ints (A.names.map numN))) → Hid (BufsAt wz W.heap.size (.slice P 8 d) v9 (A.bufs.take (j + 1))) → Hid (wz.heap[pa]? = some (.cells (sc66 (.slice P 8 d) v9 M sh) 66 (0, 0))) → Hid (Below W.heap.size W wz) →
            K5 ⟨#[.agg (sc66 (.slice (some ⟨p, 0, none⟩) 8 c) (.slice (some ⟨q, 0, none⟩) n cv) M sh), .pointer (some ⟨w.heap.size, 0, none⟩), .pointer (some ⟨w.heap.size + 1, 0, none⟩), .pointer (some ⟨pa, 0, none⟩), .int .i64 (j : Int), t5, t6, t7, t8, t9, t10, t11, t12, s13, s14, s15, s16, s17, s18, s19, s20, s21, s22, s23, s24, s25, s26, s27, s28, s29, s30, t31], []⟩ wz := by
          intro v9 s13 s14 s15 s16 s17 s18 s19 s20 s21 s22 s23 s24 s25 s26 s27 s28 s29 s30 wz HO9 HB9 HPA9 HW9
          apply hK5
          clear hK5 HO HBJ HPA HW x0 x1 x2 x3
          go_wp2_with fail
          go_roundw
          case rel => exact ⟨j + 1, v9, by omega, by go_num, HO9, HB9, HPA9, HW9⟩
          case measure => simp [intOf]; omega
        clear hK5
        have hSS : Kept [] W wr.drew := kept_of HW.out.drew
        replace HO := Lib.hid (own_below HO.out (Below.refl _ wr).drew)
        replace HBJ := Lib.hid (HBJ.out.below (Below.refl _ wr).drew)
        replace HPA : Hid (wr.drew.heap[pa]? = _) := Lib.hid HPA.out
        replace HW := Lib.hid HW.out.drew
        refine wp_region_held_drew (S := Kept [] W) mixed hSS (fun hS => ?_)
        clear hSS
        generalize wr.drew = wd at *
        refine hk3 (i := 0) rfl (by kernel_rfl) Zh hS rfl (fun K hK => ?_); go_simp; refine hK _ ?_; clear hK K; try simp only [Zq]
        refine hk3 (i := 2) rfl (by kernel_rfl) Zh hS rfl (fun K hK => ?_); go_simp; refine hK _ ?_; clear hK K; try simp only [Zq]
        refine hv3 (i := 3) rfl (by kernel_rfl) Zg hS rfl (fun w' hw' => ex_one rfl (one64 (hw'.cell x1 (by simp <;> omega)))) ?_; try simp only [Zq]
        refine hk3 (i := 4) rfl (by kernel_rfl) Zh hS rfl (fun K hK => ?_); go_simp; refine hK _ ?_; clear hK K; try simp only [Zq]
        refine hk3 (i := 5) rfl (by kernel_rfl) Zh hS rfl (fun K hK => ?_); go_simp; refine hK _ ?_; clear hK K; try simp only [Zq]
        (refine hv3 (i := 6) rfl (by kernel_rfl) Zg hS rfl (fun w' hw' => ex_row rfl ((fun h => row_mid h HX.out u105 rfl rfl info105) (hw'.look hcur (by simp)))) ?_; try simp only [Zy])
        refine ha_two (i := 1) (j := 7) (by kernel_rfl) ?_ ?_
        · have q1 := (s66_cell HPA.out).2.1
          refine sh_val (i := 1) rfl rfl (ex_one rfl (one64 q1)) hS ?_; try simp only [Zy]
          clear q1
          refine ha_call (i := 7) (by kernel_rfl) rfl rfl (fun K hK => ?_); go_simp; refine ⟨_, _, ⟨rfl, rfl⟩, hK _ _ ⟨_, copiedI_any _ b B hbG.1 hbG.2 _ ⟨lv, kv, vv, uv, rfl, hR.below HW.out⟩, ?_⟩⟩; clear hK K; rintro e w7 ⟨v7, rfl, hr7, hb1⟩; refine ⟨_, rfl, hS.below hb1, ?_⟩; replace hS := hS.below hb1; (obtain ⟨lv7, kv7, vv7, uv7, rfl, hrs7⟩ := hr7; have HNV : Hid (∀ x, (Value.slice P 8 d).ownBlock = some x → ¬ RFoot (.agg (rcells lv7 b.seed kv7 vv7 uv7 (isD b))) x) := Lib.hid (fun x h1 h2 ↦ by have := own_lt HO.out x h1; have := (RAt.foot ⟨_, _, _, _, rfl, hrs7⟩ h2).1; omega); have HRC := Lib.hid (hrs7.weak HW.out.size); replace HO := Lib.hid (own_below HO.out hb1); replace HBJ := Lib.hid (HBJ.out.below hb1); replace HPA := Lib.hid (below_look hb1 HPA.out); replace HW := Lib.hid (HW.out.trans (hb1.mono HW.out.size)); clear hrs7 hb1); try simp only [Zq]
          try simp only [Zy]
          have hba := (Below.refl (w7).heap.size (w7)).alloc (Nat.le_refl _) (.cells (rcells lv7 b.seed kv7 vv7 uv7 (isD b)) 105)
          have hSn := hS.below hba
          refine ha_do (i := 8) (by kernel_rfl) rfl rfl (ex_bs64_1 _ rfl HRC.out rfl) hSn ?_; try simp only [Zy]
          replace hS := hSn
          clear hSn
          have H8 : Hid (((w7).alloc (.cells (rcells lv7 b.seed kv7 vv7 uv7 (isD b)) 105)).heap[(w7).heap.size]? = some (.cells (rcells lv7 b.seed kv7 vv7 uv7 (isD b)) 105 (0, 0))) := Lib.hid (ha_new rfl)
          replace HO := Lib.hid (own_below HO.out hba)
          replace HBJ := Lib.hid (HBJ.out.below hba)
          replace HPA := Lib.hid (below_look hba HPA.out)
          replace HW := Lib.hid (HW.out.trans (hba.mono HW.out.size))
          replace HRC := Lib.hid (HRC.out.below hba)
          clear hba
          generalize (w7).alloc (.cells (rcells lv7 b.seed kv7 vv7 uv7 (isD b)) 105) = w8 at *
          generalize (w7).heap.size = q8 at H8 ⊢
          obtain ⟨v9, w9, hr, hbj9, hbel, hcells, hown⟩ := run_push64 (B := W.heap.size) (q := q8) 64 HBJ.out HW.out.size (by rw [List.length_take]; omega) HRC.out HNV.out H8.out
          have hSn : Kept [] W w9 := kept_of (HW.out.trans hbel)
          refine ha_do (i := 9) (by kernel_rfl) rfl rfl (ex_app _ _ rfl rfl rfl hr) hSn ?_; try simp only [Zy]
          replace hS := hSn
          clear hSn
          rw [← takeSnoc hbj] at hbj9
          replace HO := Lib.hid (hown _ _ _ _ _ _ HO.out (by decide))
          replace HPA := Lib.hid (hcells _ _ _ (by decide) HPA.out)
          replace HW := Lib.hid (HW.out.trans hbel)
          replace HBJ := Lib.hid hbj9
          clear hr hbj9 hbel hcells hown HRC H8
          refine hk3 (i := 10) rfl (by kernel_rfl) Zh hS rfl (fun K hK => ?_); go_simp; refine hK _ ?_; clear hK K; try simp only [Zq]
          obtain ⟨zs, hzs⟩ := HBJ.out.own
          refine ha_storeC (i := 11) (by kernel_rfl) rfl rfl 64 _ _ rfl pa 1 v9 rfl rfl (by kernel_rfl) (own_one hzs) (by rw [(s66_cell HPA.out).2.1]; rfl) (frozen_of_row _ _ _ _ _ HPA.out) (hS.cellNew hpa _ _) (fun hS => ?_); try simp only [Zy]
          refine wpAnyH_done (by kernel_rfl) ?_ _
          exact tail5 v9 _ _ _ _ _ _ _ _ _ _ _ _ _ _ _ _ _ _ _ (Lib.hid (own_cellT HO.out HPA.out (by decide) _ _)) (Lib.hid (HBJ.out.cellT HPA.out (by decide) (by decide) (by decide) (by decide) _ _)) (Lib.hid ((hs_new HPA.out).trans rfl)) (Lib.hid (HW.out.setCell (p := ⟨pa, 1, none⟩) hpa _))
        · refine sh_call (i := 7) rfl rfl (fun K hK => ?_); go_simp; refine ⟨_, _, ⟨rfl, rfl⟩, hK _ _ ⟨_, copiedI_any _ b B hbG.1 hbG.2 _ ⟨lv, kv, vv, uv, rfl, hR.below HW.out⟩, ?_⟩⟩; clear hK K; rintro e w7 ⟨v7, rfl, hr7, hb1⟩; refine ⟨_, rfl, hS.below hb1, ?_⟩; replace hS := hS.below hb1; (obtain ⟨lv7, kv7, vv7, uv7, rfl, hrs7⟩ := hr7; have HNV : Hid (∀ x, (Value.slice P 8 d).ownBlock = some x → ¬ RFoot (.agg (rcells lv7 b.seed kv7 vv7 uv7 (isD b))) x) := Lib.hid (fun x h1 h2 ↦ by have := own_lt HO.out x h1; have := (RAt.foot ⟨_, _, _, _, rfl, hrs7⟩ h2).1; omega); have HRC := Lib.hid (hrs7.weak HW.out.size); replace HO := Lib.hid (own_below HO.out hb1); replace HBJ := Lib.hid (HBJ.out.below hb1); replace HPA := Lib.hid (below_look hb1 HPA.out); replace HW := Lib.hid (HW.out.trans (hb1.mono HW.out.size)); clear hrs7 hb1); try simp only [Zq]
          try simp only [Zy]
          refine ha_two (i := 1) (j := 8) (by kernel_rfl) ?_ ?_
          · have q1 := (s66_cell HPA.out).2.1
            refine sh_val (i := 1) rfl rfl (ex_one rfl (one64 q1)) hS ?_; try simp only [Zy]
            clear q1
            have hba := (Below.refl (w7).heap.size (w7)).alloc (Nat.le_refl _) (.cells (rcells lv7 b.seed kv7 vv7 uv7 (isD b)) 105)
            have hSn := hS.below hba
            refine ha_do (i := 8) (by kernel_rfl) rfl rfl (ex_bs64_1 _ rfl HRC.out rfl) hSn ?_; try simp only [Zy]
            replace hS := hSn
            clear hSn
            have H8 : Hid (((w7).alloc (.cells (rcells lv7 b.seed kv7 vv7 uv7 (isD b)) 105)).heap[(w7).heap.size]? = some (.cells (rcells lv7 b.seed kv7 vv7 uv7 (isD b)) 105 (0, 0))) := Lib.hid (ha_new rfl)
            replace HO := Lib.hid (own_below HO.out hba)
            replace HBJ := Lib.hid (HBJ.out.below hba)
            replace HPA := Lib.hid (below_look hba HPA.out)
            replace HW := Lib.hid (HW.out.trans (hba.mono HW.out.size))
            replace HRC := Lib.hid (HRC.out.below hba)
            clear hba
            generalize (w7).alloc (.cells (rcells lv7 b.seed kv7 vv7 uv7 (isD b)) 105) = w8 at *
            generalize (w7).heap.size = q8 at H8 ⊢
            obtain ⟨v9, w9, hr, hbj9, hbel, hcells, hown⟩ := run_push64 (B := W.heap.size) (q := q8) 64 HBJ.out HW.out.size (by rw [List.length_take]; omega) HRC.out HNV.out H8.out
            have hSn : Kept [] W w9 := kept_of (HW.out.trans hbel)
            refine ha_do (i := 9) (by kernel_rfl) rfl rfl (ex_app _ _ rfl rfl rfl hr) hSn ?_; try simp only [Zy]
            replace hS := hSn
            clear hSn
            rw [← takeSnoc hbj] at hbj9
            replace HO := Lib.hid (hown _ _ _ _ _ _ HO.out (by decide))
            replace HPA := Lib.hid (hcells _ _ _ (by decide) HPA.out)
            replace HW := Lib.hid (HW.out.trans hbel)
            replace HBJ := Lib.hid hbj9
            clear hr hbj9 hbel hcells hown HRC H8
            refine hk3 (i := 10) rfl (by kernel_rfl) Zh hS rfl (fun K hK => ?_); go_simp; refine hK _ ?_; clear hK K; try simp only [Zq]
            obtain ⟨zs, hzs⟩ := HBJ.out.own
            refine ha_storeC (i := 11) (by kernel_rfl) rfl rfl 64 _ _ rfl pa 1 v9 rfl rfl (by kernel_rfl) (own_one hzs) (by rw [(s66_cell HPA.out).2.1]; rfl) (frozen_of_row _ _ _ _ _ HPA.out) (hS.cellNew hpa _ _) (fun hS => ?_); try simp only [Zy]
            refine wpAnyH_done (by kernel_rfl) ?_ _
            exact tail5 v9 _ _ _ _ _ _ _ _ _ _ _ _ _ _ _ _ _ _ _ (Lib.hid (own_cellT HO.out HPA.out (by decide) _ _)) (Lib.hid (HBJ.out.cellT HPA.out (by decide) (by decide) (by decide) (by decide) _ _)) (Lib.hid ((hs_new HPA.out).trans rfl)) (Lib.hid (HW.out.setCell (p := ⟨pa, 1, none⟩) hpa _))
          · have hba := (Below.refl (w7).heap.size (w7)).alloc (Nat.le_refl _) (.cells (rcells lv7 b.seed kv7 vv7 uv7 (isD b)) 105)
            have hSn := hS.below hba
            refine sh_w (i := 8) rfl rfl (ex_bs64_1 _ rfl HRC.out rfl) hSn ?_; try simp only [Zy]
            replace hS := hSn
            clear hSn
            have H8 : Hid (((w7).alloc (.cells (rcells lv7 b.seed kv7 vv7 uv7 (isD b)) 105)).heap[(w7).heap.size]? = some (.cells (rcells lv7 b.seed kv7 vv7 uv7 (isD b)) 105 (0, 0))) := Lib.hid (ha_new rfl)
            replace HO := Lib.hid (own_below HO.out hba)
            replace HBJ := Lib.hid (HBJ.out.below hba)
            replace HPA := Lib.hid (below_look hba HPA.out)
            replace HW := Lib.hid (HW.out.trans (hba.mono HW.out.size))
            replace HRC := Lib.hid (HRC.out.below hba)
            clear hba
            generalize (w7).alloc (.cells (rcells lv7 b.seed kv7 vv7 uv7 (isD b)) 105) = w8 at *
            generalize (w7).heap.size = q8 at H8 ⊢
            have q1 := (s66_cell HPA.out).2.1
            refine ha_do (i := 1) (by kernel_rfl) rfl rfl (ex_one rfl (one64 q1)) hS ?_; try simp only [Zy]
            clear q1
            obtain ⟨v9, w9, hr, hbj9, hbel, hcells, hown⟩ := run_push64 (B := W.heap.size) (q := q8) 64 HBJ.out HW.out.size (by rw [List.length_take]; omega) HRC.out HNV.out H8.out
            have hSn : Kept [] W w9 := kept_of (HW.out.trans hbel)
            refine ha_do (i := 9) (by kernel_rfl) rfl rfl (ex_app _ _ rfl rfl rfl hr) hSn ?_; try simp only [Zy]
            replace hS := hSn
            clear hSn
            rw [← takeSnoc hbj] at hbj9
            replace HO := Lib.hid (hown _ _ _ _ _ _ HO.out (by decide))
            replace HPA := Lib.hid (hcells _ _ _ (by decide) HPA.out)
            replace HW := Lib.hid (HW.out.trans hbel)
            replace HBJ := Lib.hid hbj9
            clear hr hbj9 hbel hcells hown HRC H8
            refine hk3 (i := 10) rfl (by kernel_rfl) Zh hS rfl (fun K hK => ?_); go_simp; refine hK _ ?_; clear hK K; try simp only [Zq]
            obtain ⟨zs, hzs⟩ := HBJ.out.own
            refine ha_storeC (i := 11) (by kernel_rfl) rfl rfl 64 _ _ rfl pa 1 v9 rfl rfl (by kernel_rfl) (own_one hzs) (by rw [(s66_cell HPA.out).2.1]; rfl) (frozen_of_row _ _ _ _ _ HPA.out) (hS.cellNew hpa _ _) (fun hS => ?_); try simp only [Zy]
            refine wpAnyH_done (by kernel_rfl) ?_ _
            exact tail5 v9 _ _ _ _ _ _ _ _ _ _ _ _ _ _ _ _ _ _ _ (Lib.hid (own_cellT HO.out HPA.out (by decide) _ _)) (Lib.hid (HBJ.out.cellT HPA.out (by decide) (by decide) (by decide) (by decide) _ _)) (Lib.hid ((hs_new HPA.out).trans rfl)) (Lib.hid (HW.out.setCell (p := ⟨pa, 1, none⟩) hpa _))
      · obtain rfl : j = n := by omega
        have HBF : Hid (BufsAt wr W.heap.size (.slice P 8 d) vj A.bufs) := Lib.hid (by have := HBJ.out; rwa [List.take_of_length_le (by rw [← HNN.out]; exact Nat.le_refl _)] at this)
        have hg2 := below_look HW.out HG2.out
        obtain ⟨zs, hzs⟩ := HBF.out.own
        obtain ⟨Aj, cj, rfl⟩ := own_shape hzs
        have HM2 := Lib.hid (And.intro HM.out HSH.out)
        clear hzs HBJ HM HSH HNN
        go_upto_region 6 with (fail)
        clear q0 q1 q2 q3 x0 x1 x2 x3
        apply wp_region_lit
        ((with_reducible apply wl_rowG); exact rfl; exact rfl; exact rowS HPA.out)
        simp only [Zq]
        obtain ⟨nj, hnj⟩ : ∃ nj, nj = A.bufs.length := ⟨_, rfl⟩
        rw [← hnj] at HPA HBF ⊢
        refine wl_putG (w.heap.size + 1) (sc66 (.slice P 8 d) (.slice Aj nj cj) M sh) rfl rfl 66 _ hg2 info66 rfl (by simp [sc66, Value.oneCell']) ?_
        rw [put_noneA]
        have HFIN := Lib.hid (hr_new (cs := sc66 (.slice P 8 d) (.slice Aj nj cj) M sh) hg2)
        have HNF := Lib.hid (own_weak (own_rowT HO.out hg2 (by decide) (sc66 (.slice P 8 d) (.slice Aj nj cj) M sh)) HB.out.size)
        have HBF2 := Lib.hid ((HBF.out.rowT hg2 (by decide) (by decide) (by decide) (by decide) (sc66 (.slice P 8 d) (.slice Aj nj cj) M sh)).weak HB.out.size)
        have HBZ := Lib.hid (below_setRow (HB.out.trans (HW.out.mono HB.out.size)) (g := w.heap.size + 1) (by omega) (sc66 (.slice P 8 d) (.slice Aj nj cj) M sh))
        clear hg2 HO HBF HPA HW hnj
        go_wp2_with fail
        exact bodyPost_ret (res_66 rfl _ _ (w.heap.size + 1) rfl HFIN.out) rfl ⟨_, rfl, ⟨_, _, by rw [HM2.out.1, HM2.out.2], HNF.out, HBF2.out⟩, HBZ.out⟩
  clear hK HG1 HG2
  refine wp_region_held_drew (S := Kept [] W) mixed (Kept.drew [] W) (fun hS => ?_)
  refine hk3 (i := 0) rfl (by kernel_rfl) Zh hS rfl (fun K hK => ?_); go_simp; refine hK _ ?_; clear hK K; try simp only [Zq]
  refine hv3 (i := 1) rfl (by kernel_rfl) Zg hS rfl (fun w' hw' => ex_one rfl (one63 (hw'.cell x0 (by simp <;> omega)))) ?_; try simp only [Zq]
  refine hk3 (i := 3) rfl (by kernel_rfl) Zh hS rfl (fun K hK => ?_); go_simp; refine hK _ ?_; clear hK K; try simp only [Zq]
  refine hv3 (i := 4) rfl (by kernel_rfl) Zg hS rfl (fun w' hw' => ex_one rfl (one3 (hw'.cell x2 (by simp <;> omega)))) ?_; try simp only [Zq]
  refine hk3 (i := 5) rfl (by kernel_rfl) Zh hS rfl (fun K hK => ?_); go_simp; refine hK _ ?_; clear hK K; try simp only [Zq]
  refine hv3 (i := 6) rfl (by kernel_rfl) Zg hS rfl (fun w' hw' => ex_one rfl (one3 (hw'.cell x3 (by simp <;> omega)))) ?_; try simp only [Zq]
  refine ha_two (i := 2) (j := 8) (by kernel_rfl) ?_ ?_
  · have hz : W.heap.size ≤ (W.drew).heap.size := hS.size
    refine sh_call (i := 2) rfl rfl (fun K hK => ?_); go_simp; refine ⟨_, _, ⟨rfl, rfl⟩, hK _ _ ⟨_, CopyInts_any (.slice (some ⟨p, 0, none⟩) 8 c) 8 (A.names.map numN) B (by omega) _ (own_below HN.out (hS.toBelow (Nat.le_refl _) (by simp))), ?_⟩⟩; clear hK K; rintro e w1 ⟨v', rfl, ho, hb1⟩; refine ⟨_, rfl, hS.below hb1, ?_⟩; replace hS := hS.below hb1; (obtain ⟨P, d, rfl⟩ := own_shape ho; have HO := Lib.hid (own_weak ho hz); clear ho hz hb1); try simp only [Zq]
    try simp only [Zy]
    (refine hv3 (i := 7) rfl (by kernel_rfl) Zg hS rfl (fun w' hw' => ex_build 66 _ rfl (L := [(0, .slice P 8 d), (2, .int .i64 M), (3, .int .i64 sh)]) rfl (built66c _ _ _ _ _)) ?_; try simp only [Zq])
    have hb1 := (Below.refl (w1).heap.size (w1)).alloc (Nat.le_refl _) (.cells (sc66 (.slice none 0 0) (.slice none 0 0) 0 0) 66)
    have hpa : W.heap.size ≤ (w1).heap.size := hS.size
    have hSn := hS.below hb1
    have hal : ((w1).alloc (.cells (sc66 (.slice none 0 0) (.slice none 0 0) 0 0) 66)).heap[(w1).heap.size]? = some (.cells (sc66 (.slice none 0 0) (.slice none 0 0) 0 0) 66 (0, 0)) := ha_new rfl
    refine ha_do (i := 8) (by kernel_rfl) rfl rfl (ex_alloc66 rfl _ _) hSn ?_; try simp only [Zy]
    replace hS := hSn
    clear hSn
    have HPA := Lib.hid hal
    replace HO := Lib.hid (own_below HO.out hb1)
    clear hb1 hal
    generalize (w1).alloc (.cells (sc66 (.slice none 0 0) (.slice none 0 0) 0 0) 66) = w2 at *
    generalize (w1).heap.size = pa at HPA hpa ⊢
    refine ha_store (i := 9) (by kernel_rfl) rfl rfl 66 _ _ rfl pa (sc66 (.slice P 8 d) (.slice none 0 0) M sh) rfl rfl 66 _ HPA.out info66 rfl (by simp [sc66, Value.oneCell']) (hS.setNew hpa _) (fun hS => ?_); try simp only [Zq]
    refine wpAnyH_done (by kernel_rfl) ?_ _
    exact tail pa P d _ _ _ _ _ _ _ _ _ _ _ _ _ _ _ _ _ _ _ _ _ _ _ _ _ _ _ _ _ hpa (Lib.hid (own_rowT HO.out HPA.out (by decide) _)) (Lib.hid (hr_new HPA.out)) (Lib.hid (hS.toBelow (Nat.le_refl _) (by simp)))
  · have hb1 := (Below.refl (W.drew).heap.size (W.drew)).alloc (Nat.le_refl _) (.cells (sc66 (.slice none 0 0) (.slice none 0 0) 0 0) 66)
    have hpa : W.heap.size ≤ (W.drew).heap.size := hS.size
    have hSn := hS.below hb1
    have hal : ((W.drew).alloc (.cells (sc66 (.slice none 0 0) (.slice none 0 0) 0 0) 66)).heap[(W.drew).heap.size]? = some (.cells (sc66 (.slice none 0 0) (.slice none 0 0) 0 0) 66 (0, 0)) := ha_new rfl
    refine sh_w (i := 8) rfl rfl (ex_alloc66 rfl _ _) hSn ?_; try simp only [Zy]
    replace hS := hSn
    clear hSn
    have HPA := Lib.hid hal
    clear hb1 hal
    generalize (W.drew).alloc (.cells (sc66 (.slice none 0 0) (.slice none 0 0) 0 0) 66) = w1 at *
    generalize (W.drew).heap.size = pa at HPA hpa ⊢
    have hz : W.heap.size ≤ (w1).heap.size := hS.size
    refine ha_call (i := 2) (by kernel_rfl) rfl rfl (fun K hK => ?_); go_simp; refine ⟨_, _, ⟨rfl, rfl⟩, hK _ _ ⟨_, CopyInts_any (.slice (some ⟨p, 0, none⟩) 8 c) 8 (A.names.map numN) B (by omega) _ (own_below HN.out (hS.toBelow (Nat.le_refl _) (by simp))), ?_⟩⟩; clear hK K; rintro e w2 ⟨v', rfl, ho, hb1⟩; refine ⟨_, rfl, hS.below hb1, ?_⟩; replace hS := hS.below hb1; (obtain ⟨P, d, rfl⟩ := own_shape ho; have HO := Lib.hid (own_weak ho hz); replace HPA := Lib.hid (below_look hb1 HPA.out); clear ho hz hb1); try simp only [Zq]
    (refine hv3 (i := 7) rfl (by kernel_rfl) Zg hS rfl (fun w' hw' => ex_build 66 _ rfl (L := [(0, .slice P 8 d), (2, .int .i64 M), (3, .int .i64 sh)]) rfl (built66c _ _ _ _ _)) ?_; try simp only [Zq])
    refine ha_store (i := 9) (by kernel_rfl) rfl rfl 66 _ _ rfl pa (sc66 (.slice P 8 d) (.slice none 0 0) M sh) rfl rfl 66 _ HPA.out info66 rfl (by simp [sc66, Value.oneCell']) (hS.setNew hpa _) (fun hS => ?_); try simp only [Zq]
    refine wpAnyH_done (by kernel_rfl) ?_ _
    exact tail pa P d _ _ _ _ _ _ _ _ _ _ _ _ _ _ _ _ _ _ _ _ _ _ _ _ _ _ _ _ _ hpa (Lib.hid (own_rowT HO.out HPA.out (by decide) _)) (Lib.hid (hr_new HPA.out)) (Lib.hid (hS.toBelow (Nat.le_refl _) (by simp)))
theorem NameI_any (n : Int) (w : World) : Calls Try.prog 69 #[.int .i64 n] w fun e w' => e = .returned (.bool (isNm n)) ∧ w = w' := by
  go_enter Try.func69, Try.ntmps69
  by_cases h : 0 ≤ n
  · have hd : decide (0 ≤ n) = true := by simpa using h
    go_wp2_with fail
    go_ret
    exact ⟨by unfold isNm; rw [hd]; rfl, rfl⟩
  · have hd : decide (0 ≤ n) = false := by simpa using h
    go_wp2_with fail
    go_ret
    exact ⟨by unfold isNm; rw [hd]; rfl, rfl⟩
def isDk (k : Int) : Bool := k == 9 || (k == 10 || k == 11)
theorem dictI_any (k : Int) (w : World) : Calls Try.prog 83 #[.int .i64 k] w fun e w' => e = .returned (.bool (isDk k)) ∧ w = w' := by
  obtain ⟨G, hG⟩ : ∃ G, G = isDk k := ⟨_, rfl⟩
  rw [← hG]
  have HG := Lib.hid hG
  clear hG
  go_enter Try.func83, Try.ntmps83
  by_cases h9 : k = 9
  · have e9 : (k == 9) = true := by simpa using h9
    have HG2 : Hid (G = true) := Lib.hid (by rw [HG.out, h9]; rfl)
    clear h9
    go_wp2_with fail
    go_ret
    exact ⟨by rw [HG2.out]; rfl, rfl⟩
  · have e9 : (k == 9) = false := by simpa using h9
    by_cases h10 : k = 10
    · have e10 : (k == 10) = true := by simpa using h10
      have HG2 : Hid (G = true) := Lib.hid (by rw [HG.out, h10]; rfl)
      clear h9 h10
      go_wp2_with fail
      go_ret
      exact ⟨by rw [HG2.out]; rfl, rfl⟩
    · have e10 : (k == 10) = false := by simpa using h10
      have HG2 : Hid (G = (k == 11)) := Lib.hid (by rw [HG.out]; unfold isDk; rw [e9, e10]; rfl)
      clear h9 h10
      go_wp2_with fail
      go_ret
      exact ⟨by rw [HG2.out]; rfl, rfl⟩
/-- what a kind uses, as a row of bools -/
def ucells (u : Use) : Array Value := #[.bool u.fr, .bool u.to, .bool u.at_, .bool u.n, .bool u.key]
def UsAt (w : World) (v : Value) (k : Int) : Prop := match useS k with | none => v = .slice none 0 0 | some u => ∃ p, v = .slice (some ⟨p, 0, none⟩) 5 5 ∧ w.heap[p]? = some (.cells (ucells u) 4 (0, 0))
theorem run_bs103 (a b c d e : Bool) (w : World) : (Instr.buildSlice 103 5 #[(0, .bool a), (1, .bool b), (2, .bool c), (3, .bool d), (4, .bool e)]).run Try.prog w = .ok (.slice (some ⟨w.heap.size, 0, none⟩) 5 5) (w.alloc (.cells #[.bool a, .bool b, .bool c, .bool d, .bool e] 4)) := by kernel_rfl
theorem ex_bs103 {ev : Operand → Value} {o : Oper} {w : World} (a b c d e : Bool) (ho : o.op = .buildSlice 103 5 #[(0, .const (.bool a)), (1, .const (.bool b)), (2, .const (.bool c)), (3, .const (.bool d)), (4, .const (.bool e))]) (hc : ∀ v, ev (.const v) = v) :
    (execOp ev o).run Try.prog w = .ok (.value (.slice (some ⟨w.heap.size, 0, none⟩) 5 5)) (w.alloc (.cells #[.bool a, .bool b, .bool c, .bool d, .bool e] 4)) := by
  unfold execOp
  simp [ho, hc, run_bs103, Result.andThen]
theorem usAt_some {w : World} {v : Value} {k : Int} {u : Use} (hu : useS k = some u) (p : Nat) (hv : v = .slice (some ⟨p, 0, none⟩) 5 5) (h : w.heap[p]? = some (.cells (ucells u) 4 (0, 0))) : UsAt w v k := by
  unfold UsAt; rw [hu]; exact ⟨p, hv, h⟩
set_option maxHeartbeats 4000000 in
set_option maxRecDepth 100000 in
theorem usesI_any (k : Int) (w : World) : Calls Try.prog 82 #[.int .i64 k] w fun e w' => ∃ v, e = .returned v ∧ UsAt w' v k ∧ Below w.heap.size w w' := by
  have hb := (Below.refl w.heap.size w)
  rcases use_cases k with h | h
  · rcases h with rfl | rfl | rfl | rfl | rfl | rfl | rfl | rfl | rfl | rfl | rfl
    · go_enter Try.func82, Try.ntmps82
      go_upto_region 3 with (fail)
      apply wp_region_lit
      refine wl_w rfl (ex_bs103 false true false false false rfl (fun _ => rfl)) ?_
      simp only [Zq]
      have hbb := hb.alloc (Nat.le_refl _) (.cells #[.bool false, .bool true, .bool false, .bool false, .bool false] 4)
      have hh : (w.alloc (.cells #[.bool false, .bool true, .bool false, .bool false, .bool false] 4)).heap[w.heap.size]? = some (.cells #[.bool false, .bool true, .bool false, .bool false, .bool false] 4 (0, 0)) := ha_new rfl
      have HH := Lib.hid hh
      clear hh
      generalize w.alloc (.cells #[.bool false, .bool true, .bool false, .bool false, .bool false] 4) = w1 at *
      go_wp2_with fail
      go_ret
      exact ⟨_, rfl, usAt_some (u := ⟨false, true, false, false, false, 0⟩) (by rfl) _ rfl HH.out, hbb⟩
    · go_enter Try.func82, Try.ntmps82
      go_upto_region 6 with (fail)
      apply wp_region_lit
      refine wl_w rfl (ex_bs103 true true false false false rfl (fun _ => rfl)) ?_
      simp only [Zq]
      have hbb := hb.alloc (Nat.le_refl _) (.cells #[.bool true, .bool true, .bool false, .bool false, .bool false] 4)
      have hh : (w.alloc (.cells #[.bool true, .bool true, .bool false, .bool false, .bool false] 4)).heap[w.heap.size]? = some (.cells #[.bool true, .bool true, .bool false, .bool false, .bool false] 4 (0, 0)) := ha_new rfl
      have HH := Lib.hid hh
      clear hh
      generalize w.alloc (.cells #[.bool true, .bool true, .bool false, .bool false, .bool false] 4) = w1 at *
      go_wp2_with fail
      go_ret
      exact ⟨_, rfl, usAt_some (u := ⟨true, true, false, false, false, 0⟩) (by rfl) _ rfl HH.out, hbb⟩
    · go_enter Try.func82, Try.ntmps82
      go_upto_region 9 with (fail)
      apply wp_region_lit
      refine wl_w rfl (ex_bs103 true false false false true rfl (fun _ => rfl)) ?_
      simp only [Zq]
      have hbb := hb.alloc (Nat.le_refl _) (.cells #[.bool true, .bool false, .bool false, .bool false, .bool true] 4)
      have hh : (w.alloc (.cells #[.bool true, .bool false, .bool false, .bool false, .bool true] 4)).heap[w.heap.size]? = some (.cells #[.bool true, .bool false, .bool false, .bool false, .bool true] 4 (0, 0)) := ha_new rfl
      have HH := Lib.hid hh
      clear hh
      generalize w.alloc (.cells #[.bool true, .bool false, .bool false, .bool false, .bool true] 4) = w1 at *
      go_wp2_with fail
      go_ret
      exact ⟨_, rfl, usAt_some (u := ⟨true, false, false, false, true, 1⟩) (by rfl) _ rfl HH.out, hbb⟩
    · go_enter Try.func82, Try.ntmps82
      go_upto_region 11 with (fail)
      apply wp_region_lit
      refine wl_w rfl (ex_bs103 true false true false true rfl (fun _ => rfl)) ?_
      simp only [Zq]
      have hbb := hb.alloc (Nat.le_refl _) (.cells #[.bool true, .bool false, .bool true, .bool false, .bool true] 4)
      have hh : (w.alloc (.cells #[.bool true, .bool false, .bool true, .bool false, .bool true] 4)).heap[w.heap.size]? = some (.cells #[.bool true, .bool false, .bool true, .bool false, .bool true] 4 (0, 0)) := ha_new rfl
      have HH := Lib.hid hh
      clear hh
      generalize w.alloc (.cells #[.bool true, .bool false, .bool true, .bool false, .bool true] 4) = w1 at *
      go_wp2_with fail
      go_ret
      exact ⟨_, rfl, usAt_some (u := ⟨true, false, true, false, true, 1⟩) (by rfl) _ rfl HH.out, hbb⟩
    · go_enter Try.func82, Try.ntmps82
      go_upto_region 13 with (fail)
      apply wp_region_lit
      refine wl_w rfl (ex_bs103 true false true false false rfl (fun _ => rfl)) ?_
      simp only [Zq]
      have hbb := hb.alloc (Nat.le_refl _) (.cells #[.bool true, .bool false, .bool true, .bool false, .bool false] 4)
      have hh : (w.alloc (.cells #[.bool true, .bool false, .bool true, .bool false, .bool false] 4)).heap[w.heap.size]? = some (.cells #[.bool true, .bool false, .bool true, .bool false, .bool false] 4 (0, 0)) := ha_new rfl
      have HH := Lib.hid hh
      clear hh
      generalize w.alloc (.cells #[.bool true, .bool false, .bool true, .bool false, .bool false] 4) = w1 at *
      go_wp2_with fail
      go_ret
      exact ⟨_, rfl, usAt_some (u := ⟨true, false, true, false, false, 1⟩) (by rfl) _ rfl HH.out, hbb⟩
    · go_enter Try.func82, Try.ntmps82
      go_upto_region 15 with (fail)
      apply wp_region_lit
      refine wl_w rfl (ex_bs103 true true true true false rfl (fun _ => rfl)) ?_
      simp only [Zq]
      have hbb := hb.alloc (Nat.le_refl _) (.cells #[.bool true, .bool true, .bool true, .bool true, .bool false] 4)
      have hh : (w.alloc (.cells #[.bool true, .bool true, .bool true, .bool true, .bool false] 4)).heap[w.heap.size]? = some (.cells #[.bool true, .bool true, .bool true, .bool true, .bool false] 4 (0, 0)) := ha_new rfl
      have HH := Lib.hid hh
      clear hh
      generalize w.alloc (.cells #[.bool true, .bool true, .bool true, .bool true, .bool false] 4) = w1 at *
      go_wp2_with fail
      go_ret
      exact ⟨_, rfl, usAt_some (u := ⟨true, true, true, true, false, 1⟩) (by rfl) _ rfl HH.out, hbb⟩
    · go_enter Try.func82, Try.ntmps82
      go_upto_region 17 with (fail)
      apply wp_region_lit
      refine wl_w rfl (ex_bs103 true false false false false rfl (fun _ => rfl)) ?_
      simp only [Zq]
      have hbb := hb.alloc (Nat.le_refl _) (.cells #[.bool true, .bool false, .bool false, .bool false, .bool false] 4)
      have hh : (w.alloc (.cells #[.bool true, .bool false, .bool false, .bool false, .bool false] 4)).heap[w.heap.size]? = some (.cells #[.bool true, .bool false, .bool false, .bool false, .bool false] 4 (0, 0)) := ha_new rfl
      have HH := Lib.hid hh
      clear hh
      generalize w.alloc (.cells #[.bool true, .bool false, .bool false, .bool false, .bool false] 4) = w1 at *
      go_wp2_with fail
      go_ret
      exact ⟨_, rfl, usAt_some (u := ⟨true, false, false, false, false, 1⟩) (by rfl) _ rfl HH.out, hbb⟩
    · go_enter Try.func82, Try.ntmps82
      go_upto_region 19 with (fail)
      apply wp_region_lit
      refine wl_w rfl (ex_bs103 false true false true false rfl (fun _ => rfl)) ?_
      simp only [Zq]
      have hbb := hb.alloc (Nat.le_refl _) (.cells #[.bool false, .bool true, .bool false, .bool true, .bool false] 4)
      have hh : (w.alloc (.cells #[.bool false, .bool true, .bool false, .bool true, .bool false] 4)).heap[w.heap.size]? = some (.cells #[.bool false, .bool true, .bool false, .bool true, .bool false] 4 (0, 0)) := ha_new rfl
      have HH := Lib.hid hh
      clear hh
      generalize w.alloc (.cells #[.bool false, .bool true, .bool false, .bool true, .bool false] 4) = w1 at *
      go_wp2_with fail
      go_ret
      exact ⟨_, rfl, usAt_some (u := ⟨false, true, false, true, false, 0⟩) (by rfl) _ rfl HH.out, hbb⟩
    · go_enter Try.func82, Try.ntmps82
      go_upto_region 21 with (fail)
      apply wp_region_lit
      refine wl_w rfl (ex_bs103 true false false true true rfl (fun _ => rfl)) ?_
      simp only [Zq]
      have hbb := hb.alloc (Nat.le_refl _) (.cells #[.bool true, .bool false, .bool false, .bool true, .bool true] 4)
      have hh : (w.alloc (.cells #[.bool true, .bool false, .bool false, .bool true, .bool true] 4)).heap[w.heap.size]? = some (.cells #[.bool true, .bool false, .bool false, .bool true, .bool true] 4 (0, 0)) := ha_new rfl
      have HH := Lib.hid hh
      clear hh
      generalize w.alloc (.cells #[.bool true, .bool false, .bool false, .bool true, .bool true] 4) = w1 at *
      go_wp2_with fail
      go_ret
      exact ⟨_, rfl, usAt_some (u := ⟨true, false, false, true, true, 2⟩) (by rfl) _ rfl HH.out, hbb⟩
    · go_enter Try.func82, Try.ntmps82
      go_upto_region 9 with (fail)
      apply wp_region_lit
      refine wl_w rfl (ex_bs103 true false false false true rfl (fun _ => rfl)) ?_
      simp only [Zq]
      have hbb := hb.alloc (Nat.le_refl _) (.cells #[.bool true, .bool false, .bool false, .bool false, .bool true] 4)
      have hh : (w.alloc (.cells #[.bool true, .bool false, .bool false, .bool false, .bool true] 4)).heap[w.heap.size]? = some (.cells #[.bool true, .bool false, .bool false, .bool false, .bool true] 4 (0, 0)) := ha_new rfl
      have HH := Lib.hid hh
      clear hh
      generalize w.alloc (.cells #[.bool true, .bool false, .bool false, .bool false, .bool true] 4) = w1 at *
      go_wp2_with fail
      go_ret
      exact ⟨_, rfl, usAt_some (u := ⟨true, false, false, false, true, 2⟩) (by rfl) _ rfl HH.out, hbb⟩
    · go_enter Try.func82, Try.ntmps82
      go_upto_region 6 with (fail)
      apply wp_region_lit
      refine wl_w rfl (ex_bs103 true true false false false rfl (fun _ => rfl)) ?_
      simp only [Zq]
      have hbb := hb.alloc (Nat.le_refl _) (.cells #[.bool true, .bool true, .bool false, .bool false, .bool false] 4)
      have hh : (w.alloc (.cells #[.bool true, .bool true, .bool false, .bool false, .bool false] 4)).heap[w.heap.size]? = some (.cells #[.bool true, .bool true, .bool false, .bool false, .bool false] 4 (0, 0)) := ha_new rfl
      have HH := Lib.hid hh
      clear hh
      generalize w.alloc (.cells #[.bool true, .bool true, .bool false, .bool false, .bool false] 4) = w1 at *
      go_wp2_with fail
      go_ret
      exact ⟨_, rfl, usAt_some (u := ⟨true, true, false, false, false, 2⟩) (by rfl) _ rfl HH.out, hbb⟩
  · have hn := useS_none h
    have HN := Lib.hid hn
    obtain ⟨h1, h2, h3, h4, h5, h6, h7, h8, h9, h10, h11⟩ := h
    have e1 := beq_false_of_ne h1
    have e2 := beq_false_of_ne h2
    have e3 := beq_false_of_ne h3
    have e4 := beq_false_of_ne h4
    have e5 := beq_false_of_ne h5
    have e6 := beq_false_of_ne h6
    have e7 := beq_false_of_ne h7
    have e8 := beq_false_of_ne h8
    have e9 := beq_false_of_ne h9
    have e10 := beq_false_of_ne h10
    have e11 := beq_false_of_ne h11
    clear hn
    go_enter Try.func82, Try.ntmps82
    go_wp2_with fail
    go_ret
    exact ⟨_, rfl, by unfold UsAt; rw [HN.out]; rfl, hb⟩
end Go.Proofs.Ytbhdgeoljlhmcaa
