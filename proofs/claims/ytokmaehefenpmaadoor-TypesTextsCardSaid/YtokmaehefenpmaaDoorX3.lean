/- The text of a function's node, written. -/
import Derived.Test.YtokmaehefenpmaaDoorX2
namespace Go.Proofs.YtokmaehefenpmaaDoor
open Go.RowKit Go.Proofs.YtokmaehefenpmaaDoor.Nm
set_option linter.unusedSimpArgs false
theorem sep_txt : ∀ (l : List Ty) (f : Bool), txtSep f l = sepText txtT f l
  | [], f => by simp [txtSep, sepText]
  | t :: l, f => by simp [txtSep, sepText, sep_txt l false]
set_option maxHeartbeats 8000000 in
set_option maxRecDepth 100000 in
theorem typ_fn (s : ByteArray) (us : List Ty) (v : Ty) (hsz : s.size ≤ 1000000000) (hC : (∀ u, u ∈ us → TypC txtT u) ∧ TypC txtT v) : TypC txtT (.node 10 s 0 (us ++ [v])) := by
  intro w B b l0 D row hBd hB hlen h hD
  have HTX : Hid (txtT (.node 10 s 0 (us ++ [v])) = [40] ++ sepText txtT true us ++ [41, 32, 45, 62, 32] ++ txtT v) := Lib.hid (by simp [txtT, txtFn_eq, sep_txt])
  have hmf : ∀ (fn : Fn) (first cap : Array Value) (w : World), (Instr.makeFunc fn first cap).run Tryd.prog w = .ok (.func fn first cap) w := fun _ _ _ _ => rfl
  obtain ⟨k1, s1, n1, A, l, c, ts1, e, rfl, -, -, -, hT⟩ := h.parts
  cases e
  have HT := Lib.hid hT
  have HL := Lib.hid hT.len
  have HI := Lib.hid hC
  have HD := Lib.hid hD
  have HLN := Lib.hid hlen
  have hbl := hBd.lt
  have HB0 := Lib.hid hBd
  have hcm := hT.cap
  have hmx := hT.max
  unfold maxLen at hmx
  clear hT hC hD hlen hBd h
  have hb := Below.refl w.heap.size w
  go_enter Tryd.func60, Tryd.ntmps60
  go_upto_region 0 with (fail)
  apply wp_region_lit
  (with_reducible refine wl_box76 rfl ?_); intro W p hbn hlp hp; replace hb := hb.trans (hbn.mono hb.size); clear hbn; simp only [put_lit, List.set_cons_zero, List.set_cons_succ]
  have lthpq := heap_lt hp; (with_reducible refine wl_box rfl ?_); intro W0 q hbn hlq hq; replace hp := below_look hbn hp; replace hb := hb.trans (hbn.mono hb.size); clear hbn; simp only [put_lit, List.set_cons_zero, List.set_cons_succ]
  have hpb : p ≠ b := by omega
  have hqb : q ≠ b := by have := heap_lt hp; omega
  go_upto_region 1 with (fail)
  refine wp_region_held_drew (S := Below W0.heap.size W0) mixed ((Below.refl _ W0).drew) (fun hS => ?_)
  have hz1 : ¬ 9223372036854775807 < 1 + s.size := by omega
  have hz4 : ¬ 9223372036854775807 < 4 + s.size := by omega
  refine ha_k (i := 7) rfl (by kernel_rfl) (by kernel_rfl) (by kernel_rfl) (fun _ _ _ _ h => h) hS rfl (fun K hK => ?_); go_simp; refine hK _ ?_; clear hK K; try simp only [put_lit, List.set_cons_zero, List.set_cons_succ]
  refine ha_val (i := 8) rfl (by kernel_rfl) (by kernel_rfl) (by kernel_rfl) (fun _ _ _ h => h) hS rfl (fun w' hw' => ex_one rfl (f1 (below_look hw' hq))) ?_; try simp only [put_lit, List.set_cons_zero, List.set_cons_succ]
  refine ha_k (i := 10) rfl (by kernel_rfl) (by kernel_rfl) (by kernel_rfl) (fun _ _ _ _ h => h) hS rfl (fun K hK => ?_); go_simp; refine hK _ ?_; clear hK K; try simp only [put_lit, List.set_cons_zero, List.set_cons_succ]
  refine ha_val (i := 11) rfl (by kernel_rfl) (by kernel_rfl) (by kernel_rfl) (fun _ _ _ h => h) hS rfl (fun w' hw' => ex_one rfl (f1 (below_look hw' hq))) ?_; try simp only [put_lit, List.set_cons_zero, List.set_cons_succ]
  refine ha_k (i := 12) rfl (by kernel_rfl) (by kernel_rfl) (by kernel_rfl) (fun _ _ _ _ h => h) hS rfl (fun K hK => ?_); go_simp; refine hK _ ?_; clear hK K; try simp only [put_lit, List.set_cons_zero, List.set_cons_succ]
  refine ha_k (i := 14) rfl (by kernel_rfl) (by kernel_rfl) (by kernel_rfl) (fun _ _ _ _ h => h) hS rfl (fun K hK => ?_); go_simp; refine hK _ ?_; clear hK K; try simp only [put_lit, List.set_cons_zero, List.set_cons_succ]
  refine ha_val (i := 15) rfl (by kernel_rfl) (by kernel_rfl) (by kernel_rfl) (fun _ _ _ h => h) hS rfl (fun w' hw' => ex_one rfl (f1 (below_look hw' hq))) ?_; try simp only [put_lit, List.set_cons_zero, List.set_cons_succ]
  refine ha_k (i := 16) rfl (by kernel_rfl) (by kernel_rfl) (by kernel_rfl) (fun _ _ _ _ h => h) hS rfl (fun K hK => ?_); go_simp; refine hK _ ?_; clear hK K; try simp only [put_lit, List.set_cons_zero, List.set_cons_succ]
  refine ha_k (i := 18) rfl (by kernel_rfl) (by kernel_rfl) (by kernel_rfl) (fun _ _ _ _ h => h) hS rfl (fun K hK => ?_); go_simp; refine hK _ ?_; clear hK K; try simp only [put_lit, List.set_cons_zero, List.set_cons_succ]
  refine ha_val (i := 19) rfl (by kernel_rfl) (by kernel_rfl) (by kernel_rfl) (fun _ _ _ h => h) hS rfl (fun w' hw' => ex_one rfl (f2 (below_look hw' hq))) ?_; try simp only [put_lit, List.set_cons_zero, List.set_cons_succ]
  clear hz4
  obtain ⟨z, hz⟩ : ∃ z, z = (⟨(Lib.decDigits 0).toArray⟩ : ByteArray) := ⟨_, rfl⟩
  have hzl : ¬ 9223372036854775807 < 1 + z.size := by have : z.size ≤ 100 := by rw [hz]; simp [Lib.decDigits, ByteArray.size]
                                                      omega
  have HCI : Hid (∀ w, Calls Tryd.prog 81 #[.int .i64 ((0 : Nat) : Int)] w fun e w' => e = .returned (.string z) ∧ w' = w) := Lib.hid fun w => by rw [hz]; exact Tryd.strconv_Itoa_small 0 (by omega) w
  clear hz
  refine ha_two (i := 0) (j := 20) (by kernel_rfl) ?_ ?_
  · have hbm : Below W0.heap.size W0 (W0.drew.alloc (.map #[] 0)) := (Below.refl _ W0).drew.alloc (Nat.le_refl _) _
    refine sh_do (i := 0) rfl rfl (ex_mm rfl _ _) hbm ?_
    try simp only [List.getElem_toArray, List.getElem_cons_succ, List.getElem_cons_zero, put_lit, List.set_cons_zero, List.set_cons_succ]
    refine lit_A (lit_cast (by kernel_rfl)) rfl rfl hzl (r := W0.heap.size) (Nat.le_refl _) ⟨rfl, rfl, rfl, rfl⟩ ⟨rfl, rfl, rfl, rfl⟩ ⟨rfl, rfl, rfl, rfl⟩ rfl rfl rfl HCI.out (by kernel_rfl) (ha_new rfl) hbm ?_
    intro w1 es c1 hm hG hb1
    have hS := hb1
    clear hG hm
    try simp only [List.getElem_toArray, List.getElem_cons_succ, List.getElem_cons_zero, put_lit, List.set_cons_zero, List.set_cons_succ]
    refine ha_k (i := 23) rfl (by kernel_rfl) (by kernel_rfl) (by kernel_rfl) (fun _ _ _ _ h => h) hS rfl (fun K hK => ?_); go_simp; refine hK _ ?_; clear hK K; try simp only [put_lit, List.set_cons_zero, List.set_cons_succ]
    refine ha_k (i := 24) rfl (by kernel_rfl) (by kernel_rfl) (by kernel_rfl) (fun _ _ _ _ h => h) hS rfl (fun K hK => ?_); go_simp; refine hK _ ?_; clear hK K; try simp only [put_lit, List.set_cons_zero, List.set_cons_succ]
    clear hS
    refine wpAnyH_done (by kernel_rfl) ?_ _
    replace hp := below_look hb1 hp
    replace hq := below_look hb1 hq
    have hb2 := hb.trans (hb1.mono hb.size)
    have hK : Kb B b w w1 := Kb.of hb2 hB
    have HBd := Lib.hid (HB0.out.old hb2)
    have hsz1 := hb2.size
    have HTW := Lib.hid (HT.out.old hb2)
    clear hb1 hb2
    go_upto_region 2 with (fail)
    apply wp_region_lit
    (with_reducible refine wl_k ?_ ?_); exact rfl; intro K hK; go_simp; refine hK _ ?_; clear hK K
    (with_reducible apply wl_oneG); exact rfl; exact rfl; exact g72 hp
    (with_reducible refine wl_k ?_ ?_); exact rfl; intro K hK; go_simp; refine hK _ ?_; clear hK K
    (with_reducible refine wl_k ?_ ?_); exact rfl; intro K hK; go_simp; refine hK _ ?_; clear hK K
    go_upto_region 3 with (fail)
    apply wp_region_lit
    (with_reducible refine wl_k ?_ ?_); exact rfl; intro K hK; go_simp; refine hK _ ?_; clear hK K
    (first | ((with_reducible apply wl_oneG); exact rfl; exact rfl; first | exact f0 (by with_reducible assumption) | exact f1 (by with_reducible assumption) | exact f2 (by with_reducible assumption) | exact f3 (by with_reducible assumption) | with_reducible assumption | exact g22 (by with_reducible assumption) | exact g25 (by with_reducible assumption)) | ((with_reducible apply wl_rowG); exact rfl; exact rfl; first | with_reducible assumption | exact RowK.now (by with_reducible assumption) | exact f4 (by with_reducible assumption)))
    go_upto_region 9 with (fail)
    apply wp_region_lit
    (with_reducible refine wl_k ?_ ?_); exact rfl; intro K hK; go_simp; refine hK _ ?_; clear hK K
    (with_reducible refine wl_k ?_ ?_); exact rfl; intro K hK; go_simp; refine hK _ ?_; clear hK K
    go_upto_region 12 with (fail)
    apply wp_region_lit
    (with_reducible refine wl_k ?_ ?_); exact rfl; intro K hK; go_simp; refine hK _ ?_; clear hK K
    (with_reducible refine wl_k ?_ ?_); exact rfl; intro K hK; go_simp; refine hK _ ?_; clear hK K
    go_upto_region 13 with (fail)
    have hml : l = us.length + 1 := by have := HL.out; simp at this; omega
    obtain ⟨m, hm⟩ : ∃ m, m = us.length := ⟨_, rfl⟩
    have HMU := Lib.hid hm
    rw [← hm] at hml
    have HML := Lib.hid hml
    have hwr : IntKind.i64.wrap ((l : Int) - 1) = (m : Int) := by rw [IntWalk.i64_in _ (by omega)]; omega
    clear hm hml
    apply wp_region_lit
    (with_reducible refine wl_k ?_ ?_); exact rfl; intro K hK; go_simp; refine hK _ ?_; clear hK K
    (first | ((with_reducible apply wl_oneG); exact rfl; exact rfl; first | exact f0 (by with_reducible assumption) | exact f1 (by with_reducible assumption) | exact f2 (by with_reducible assumption) | exact f3 (by with_reducible assumption) | with_reducible assumption | exact g22 (by with_reducible assumption) | exact g25 (by with_reducible assumption)) | ((with_reducible apply wl_rowG); exact rfl; exact rfl; first | with_reducible assumption | exact RowK.now (by with_reducible assumption) | exact f4 (by with_reducible assumption)))
    (with_reducible refine wl_k ?_ ?_); exact rfl; intro K hK; go_simp; refine hK _ ?_; clear hK K
    (with_reducible refine wl_k ?_ ?_); exact rfl; intro K hK; go_simp; refine hK _ ?_; clear hK K
    (with_reducible refine wl_k ?_ ?_); exact rfl; intro K hK; go_simp; refine hK _ ?_; clear hK K
    clear hwr
    have HW := Lib.hid (WriteS B b _ ⟨#[40]⟩ w1 HBd.out (by
      have := HLN.out; rw [HTX.out] at this
      simp only [List.length_append, List.length_cons, List.length_nil] at this ⊢
      have h1 : (⟨#[40]⟩ : ByteArray).size = 1 := rfl
      omega) (by omega))
    go_upto_region 14 with (fail)
    apply wp_region_lit
    (with_reducible refine wl_k ?_ ?_); exact rfl; intro K hK; go_simp; refine hK _ ?_; clear hK K
    (with_reducible refine wl_ck ?_ ?_); exact rfl; intro K hK; go_simp; refine ⟨_, _, ⟨rfl, rfl⟩, hK _ _ ⟨_, HW.out, ?_⟩⟩; clear hK K; rintro e w14 ⟨rfl, hbdw, hkw⟩; refine ⟨_, rfl, ?_⟩; simp only [put_lit, List.set_cons_zero, List.set_cons_succ]
    replace HBd := Lib.hid hbdw
    replace HTW := Lib.hid (HTW.out.kb HD.out hkw)
    have hsz14 := hkw.size
    replace hp := hkw.look hp hpb (by decide)
    replace hq := hkw.look hq hqb (by decide)
    replace hK := hK.trans hkw
    clear hkw hbdw HW
    have hsw : Kb B b w14 w14.drew := Kb.of ((Below.refl _ w14).drew) (by omega)
    have HC := Lib.hid (list_any txtT us HI.out.1 w14.drew B b _ D A m c (HBd.out.old ((Below.refl _ w14).drew)) (by have := hsw.size; omega) (by
      have := HLN.out; rw [HTX.out] at this
      simp only [List.length_append, List.length_cons, List.length_nil] at this ⊢
      omega) ((HTW.out.init HMU.out.symm).old ((Below.refl _ w14).drew)) HD.out)
    have hmc2 : m ≤ c := by have := HML.out; omega
    have hmI : (m : Int) ≤ (c : Int) := by omega
    go_upto_region 15 with (fail)
    refine wp_region_held_drew (S := Kb B b w14) mixed hsw (fun hS => ?_)
    refine ha_val (i := 0) rfl (by kernel_rfl) (by kernel_rfl) (by kernel_rfl) (fun _ _ _ h => h) hS rfl (fun w' hw' => ex_row rfl (g76 (Kb.look hw' hp hpb (by decide)))) ?_; try simp only [List.getElem_toArray, List.getElem_cons_succ, List.getElem_cons_zero, put_lit, List.set_cons_zero, List.set_cons_succ]
    refine ha_k (i := 1) rfl (by kernel_rfl) (by kernel_rfl) (by kernel_rfl) (fun _ _ _ _ h => h) hS rfl (fun K hK => ?_); go_simp; refine hK _ ?_; clear hK K; try simp only [put_lit, List.set_cons_zero, List.set_cons_succ]
    refine ha_val (i := 2) rfl (by kernel_rfl) (by kernel_rfl) (by kernel_rfl) (fun _ _ _ h => h) hS rfl (fun w' hw' => ex_one rfl (f3 (Kb.look hw' hq hqb (by decide)))) ?_; try simp only [List.getElem_toArray, List.getElem_cons_succ, List.getElem_cons_zero, put_lit, List.set_cons_zero, List.set_cons_succ]
    refine ha_k (i := 3) rfl (by kernel_rfl) (by kernel_rfl) (by kernel_rfl) (fun _ _ _ _ h => h) hS rfl (fun K hK => ?_); go_simp; refine hK _ ?_; clear hK K; try simp only [put_lit, List.set_cons_zero, List.set_cons_succ]
    refine ha_k (i := 4) rfl (by kernel_rfl) (by kernel_rfl) (by kernel_rfl) (fun _ _ _ _ h => h) hS rfl (fun K hK => ?_); go_simp; refine hK _ ?_; clear hK K; try simp only [put_lit, List.set_cons_zero, List.set_cons_succ]
    clear hS
    refine ha_call (i := 5) (by kernel_rfl) rfl rfl (fun K hK => ?_)
    go_simp; refine ⟨_, _, ⟨rfl, rfl⟩, hK _ _ ⟨_, HC.out, ?_⟩⟩; clear hK K; rintro e w5 ⟨rfl, hbd5, hk5⟩; refine ⟨_, rfl, hsw.trans hk5, ?_⟩
    try simp only [List.getElem_toArray, List.getElem_cons_succ, List.getElem_cons_zero, put_lit, List.set_cons_zero, List.set_cons_succ]
    have hk6 := hsw.trans hk5
    replace HBd := Lib.hid hbd5
    have hsz5 := hk6.size
    replace hp := hk6.look hp hpb (by decide)
    replace hq := hk6.look hq hqb (by decide)
    replace HTW := Lib.hid (HTW.out.kb HD.out hk6)
    replace hK := hK.trans hk6
    clear hk5 hk6 hbd5 HC hsw
    refine wpAnyH_done (by kernel_rfl) ?_ _
    have HW := Lib.hid (WriteS B b _ ⟨#[41, 32, 45, 62, 32]⟩ w5 HBd.out (by
      have := HLN.out; rw [HTX.out] at this
      simp only [List.length_append, List.length_cons, List.length_nil] at this ⊢
      have h1 : (⟨#[41, 32, 45, 62, 32]⟩ : ByteArray).size = 5 := rfl
      omega) (by omega))
    go_upto_region 16 with (fail)
    apply wp_region_lit
    (with_reducible refine wl_k ?_ ?_); exact rfl; intro K hK; go_simp; refine hK _ ?_; clear hK K
    (with_reducible refine wl_ck ?_ ?_); exact rfl; intro K hK; go_simp; refine ⟨_, _, ⟨rfl, rfl⟩, hK _ _ ⟨_, HW.out, ?_⟩⟩; clear hK K; rintro e w16 ⟨rfl, hbdw, hkw⟩; refine ⟨_, rfl, ?_⟩; simp only [put_lit, List.set_cons_zero, List.set_cons_succ]
    replace HBd := Lib.hid hbdw
    replace HTW := Lib.hid (HTW.out.kb HD.out hkw)
    have hsz16 := hkw.size
    replace hp := hkw.look hp hpb (by decide)
    replace hq := hkw.look hq hqb (by decide)
    replace hK := hK.trans hkw
    clear hkw hbdw HW
    have hmlt : m < l := by have := HML.out; omega
    have hmltI : (m : Int) < (l : Int) := by omega
    obtain ⟨x, off, rfl⟩ := HTW.out.addr hmlt
    obtain ⟨row, hrow, hta⟩ := HTW.out.rowKb b HD.out (show (us ++ [v])[m]? = some v by rw [HMU.out]; simp)
    have HRW := Lib.hid hrow
    have HTA := Lib.hid hta
    clear hrow hta
    have hsw : Kb B b w16 w16.drew := Kb.of ((Below.refl _ w16).drew) (by omega)
    have HC := Lib.hid (HI.out.2 w16.drew B b _ D row (HBd.out.old ((Below.refl _ w16).drew)) (by have := hsw.size; omega) (by
      have := HLN.out; rw [HTX.out] at this
      simp only [List.length_append, List.length_cons, List.length_nil] at this ⊢
      omega) (HTA.out.old ((Below.refl _ w16).drew)) HD.out)
    go_upto_region 17 with (fail)
    refine wp_region_held_drew (S := Kb B b w16) mixed hsw (fun hS => ?_)
    refine ha_val (i := 0) rfl (by kernel_rfl) (by kernel_rfl) (by kernel_rfl) (fun _ _ _ h => h) hS rfl (fun w' hw' => ex_row rfl (g76 (Kb.look hw' hp hpb (by decide)))) ?_; try simp only [List.getElem_toArray, List.getElem_cons_succ, List.getElem_cons_zero, put_lit, List.set_cons_zero, List.set_cons_succ]
    refine ha_k (i := 1) rfl (by kernel_rfl) (by kernel_rfl) (by kernel_rfl) (fun _ _ _ _ h => h) hS rfl (fun K hK => ?_); go_simp; refine hK _ ?_; clear hK K; try simp only [put_lit, List.set_cons_zero, List.set_cons_succ]
    refine ha_val (i := 2) rfl (by kernel_rfl) (by kernel_rfl) (by kernel_rfl) (fun _ _ _ h => h) hS rfl (fun w' hw' => ex_one rfl (f3 (Kb.look hw' hq hqb (by decide)))) ?_; try simp only [List.getElem_toArray, List.getElem_cons_succ, List.getElem_cons_zero, put_lit, List.set_cons_zero, List.set_cons_succ]
    refine ha_k (i := 3) rfl (by kernel_rfl) (by kernel_rfl) (by kernel_rfl) (fun _ _ _ _ h => h) hS rfl (fun K hK => ?_); go_simp; refine hK _ ?_; clear hK K; try simp only [put_lit, List.set_cons_zero, List.set_cons_succ]
    refine ha_k (i := 4) rfl (by kernel_rfl) (by kernel_rfl) (by kernel_rfl) (fun _ _ _ _ h => h) hS rfl (fun K hK => ?_); go_simp; refine hK _ ?_; clear hK K; try simp only [put_lit, List.set_cons_zero, List.set_cons_succ]
    refine ha_val (i := 5) rfl (by kernel_rfl) (by kernel_rfl) (by kernel_rfl) (fun _ _ _ h => h) hS rfl (fun w' hw' => ex_row rfl (HRW.out w' hw')) ?_; try simp only [List.getElem_toArray, List.getElem_cons_succ, List.getElem_cons_zero, put_lit, List.set_cons_zero, List.set_cons_succ]
    clear hS
    refine ha_call (i := 6) (by kernel_rfl) rfl rfl (fun K hK => ?_)
    go_simp; refine ⟨_, _, ⟨rfl, rfl⟩, hK _ _ ⟨_, HC.out, ?_⟩⟩; clear hK K; rintro e w6 ⟨rfl, hbd6, hk6⟩; refine ⟨_, rfl, hsw.trans hk6, ?_⟩
    try simp only [List.getElem_toArray, List.getElem_cons_succ, List.getElem_cons_zero, put_lit, List.set_cons_zero, List.set_cons_succ]
    have HBd6 : Hid (Bd w6 B b (l0 ++ txtT (.node 10 s 0 (us ++ [v])))) := Lib.hid (by rw [HTX.out]; simpa using hbd6)
    replace hK := hK.trans (hsw.trans hk6)
    clear hk6 hbd6 HC hsw hp hq HRW HTA
    refine wpAnyH_done (by kernel_rfl) ?_ _
    go_wp2_with fail
    go_end0
    exact ⟨rfl, HBd6.out, hK⟩
  · refine sh_call (i := 20) rfl rfl (fun K hK => ?_)
    go_simp; refine ⟨_, _, ⟨rfl, rfl⟩, hK _ _ ⟨_, HCI.out _, ?_⟩⟩; clear hK K; rintro e w20 ⟨rfl, rfl⟩; refine ⟨_, rfl, (Below.refl _ W0).drew, ?_⟩
    try simp only [List.getElem_toArray, List.getElem_cons_succ, List.getElem_cons_zero, put_lit, List.set_cons_zero, List.set_cons_succ]
    refine ha_k (i := 21) rfl (by kernel_rfl) (by kernel_rfl) (by kernel_rfl) (fun _ _ _ _ h => h) hS rfl (fun K hK => ?_); go_simp; refine hK _ ?_; clear hK K; try simp only [put_lit, List.set_cons_zero, List.set_cons_succ]
    have hbm : Below W0.heap.size W0 (W0.drew.alloc (.map #[] 0)) := (Below.refl _ W0).drew.alloc (Nat.le_refl _) _
    refine ha_do (i := 0) (by kernel_rfl) rfl rfl (ex_mm rfl _ _) hbm ?_
    try simp only [List.getElem_toArray, List.getElem_cons_succ, List.getElem_cons_zero, put_lit, List.set_cons_zero, List.set_cons_succ]
    refine lit_B (lit_cast (by kernel_rfl)) rfl rfl hzl (r := W0.heap.size) (Nat.le_refl _) ⟨rfl, rfl, rfl, rfl⟩ rfl rfl rfl HCI.out (by kernel_rfl) (ha_new rfl) hbm ?_
    intro w1 es c1 hm hG hb1
    have hS := hb1
    clear hG hm
    try simp only [List.getElem_toArray, List.getElem_cons_succ, List.getElem_cons_zero, put_lit, List.set_cons_zero, List.set_cons_succ]
    refine ha_k (i := 23) rfl (by kernel_rfl) (by kernel_rfl) (by kernel_rfl) (fun _ _ _ _ h => h) hS rfl (fun K hK => ?_); go_simp; refine hK _ ?_; clear hK K; try simp only [put_lit, List.set_cons_zero, List.set_cons_succ]
    refine ha_k (i := 24) rfl (by kernel_rfl) (by kernel_rfl) (by kernel_rfl) (fun _ _ _ _ h => h) hS rfl (fun K hK => ?_); go_simp; refine hK _ ?_; clear hK K; try simp only [put_lit, List.set_cons_zero, List.set_cons_succ]
    clear hS
    refine wpAnyH_done (by kernel_rfl) ?_ _
    replace hp := below_look hb1 hp
    replace hq := below_look hb1 hq
    have hb2 := hb.trans (hb1.mono hb.size)
    have hK : Kb B b w w1 := Kb.of hb2 hB
    have HBd := Lib.hid (HB0.out.old hb2)
    have hsz1 := hb2.size
    have HTW := Lib.hid (HT.out.old hb2)
    clear hb1 hb2
    go_upto_region 2 with (fail)
    apply wp_region_lit
    (with_reducible refine wl_k ?_ ?_); exact rfl; intro K hK; go_simp; refine hK _ ?_; clear hK K
    (with_reducible apply wl_oneG); exact rfl; exact rfl; exact g72 hp
    (with_reducible refine wl_k ?_ ?_); exact rfl; intro K hK; go_simp; refine hK _ ?_; clear hK K
    (with_reducible refine wl_k ?_ ?_); exact rfl; intro K hK; go_simp; refine hK _ ?_; clear hK K
    go_upto_region 3 with (fail)
    apply wp_region_lit
    (with_reducible refine wl_k ?_ ?_); exact rfl; intro K hK; go_simp; refine hK _ ?_; clear hK K
    (first | ((with_reducible apply wl_oneG); exact rfl; exact rfl; first | exact f0 (by with_reducible assumption) | exact f1 (by with_reducible assumption) | exact f2 (by with_reducible assumption) | exact f3 (by with_reducible assumption) | with_reducible assumption | exact g22 (by with_reducible assumption) | exact g25 (by with_reducible assumption)) | ((with_reducible apply wl_rowG); exact rfl; exact rfl; first | with_reducible assumption | exact RowK.now (by with_reducible assumption) | exact f4 (by with_reducible assumption)))
    go_upto_region 9 with (fail)
    apply wp_region_lit
    (with_reducible refine wl_k ?_ ?_); exact rfl; intro K hK; go_simp; refine hK _ ?_; clear hK K
    (with_reducible refine wl_k ?_ ?_); exact rfl; intro K hK; go_simp; refine hK _ ?_; clear hK K
    go_upto_region 12 with (fail)
    apply wp_region_lit
    (with_reducible refine wl_k ?_ ?_); exact rfl; intro K hK; go_simp; refine hK _ ?_; clear hK K
    (with_reducible refine wl_k ?_ ?_); exact rfl; intro K hK; go_simp; refine hK _ ?_; clear hK K
    go_upto_region 13 with (fail)
    have hml : l = us.length + 1 := by have := HL.out; simp at this; omega
    obtain ⟨m, hm⟩ : ∃ m, m = us.length := ⟨_, rfl⟩
    have HMU := Lib.hid hm
    rw [← hm] at hml
    have HML := Lib.hid hml
    have hwr : IntKind.i64.wrap ((l : Int) - 1) = (m : Int) := by rw [IntWalk.i64_in _ (by omega)]; omega
    clear hm hml
    apply wp_region_lit
    (with_reducible refine wl_k ?_ ?_); exact rfl; intro K hK; go_simp; refine hK _ ?_; clear hK K
    (first | ((with_reducible apply wl_oneG); exact rfl; exact rfl; first | exact f0 (by with_reducible assumption) | exact f1 (by with_reducible assumption) | exact f2 (by with_reducible assumption) | exact f3 (by with_reducible assumption) | with_reducible assumption | exact g22 (by with_reducible assumption) | exact g25 (by with_reducible assumption)) | ((with_reducible apply wl_rowG); exact rfl; exact rfl; first | with_reducible assumption | exact RowK.now (by with_reducible assumption) | exact f4 (by with_reducible assumption)))
    (with_reducible refine wl_k ?_ ?_); exact rfl; intro K hK; go_simp; refine hK _ ?_; clear hK K
    (with_reducible refine wl_k ?_ ?_); exact rfl; intro K hK; go_simp; refine hK _ ?_; clear hK K
    (with_reducible refine wl_k ?_ ?_); exact rfl; intro K hK; go_simp; refine hK _ ?_; clear hK K
    clear hwr
    have HW := Lib.hid (WriteS B b _ ⟨#[40]⟩ w1 HBd.out (by
      have := HLN.out; rw [HTX.out] at this
      simp only [List.length_append, List.length_cons, List.length_nil] at this ⊢
      have h1 : (⟨#[40]⟩ : ByteArray).size = 1 := rfl
      omega) (by omega))
    go_upto_region 14 with (fail)
    apply wp_region_lit
    (with_reducible refine wl_k ?_ ?_); exact rfl; intro K hK; go_simp; refine hK _ ?_; clear hK K
    (with_reducible refine wl_ck ?_ ?_); exact rfl; intro K hK; go_simp; refine ⟨_, _, ⟨rfl, rfl⟩, hK _ _ ⟨_, HW.out, ?_⟩⟩; clear hK K; rintro e w14 ⟨rfl, hbdw, hkw⟩; refine ⟨_, rfl, ?_⟩; simp only [put_lit, List.set_cons_zero, List.set_cons_succ]
    replace HBd := Lib.hid hbdw
    replace HTW := Lib.hid (HTW.out.kb HD.out hkw)
    have hsz14 := hkw.size
    replace hp := hkw.look hp hpb (by decide)
    replace hq := hkw.look hq hqb (by decide)
    replace hK := hK.trans hkw
    clear hkw hbdw HW
    have hsw : Kb B b w14 w14.drew := Kb.of ((Below.refl _ w14).drew) (by omega)
    have HC := Lib.hid (list_any txtT us HI.out.1 w14.drew B b _ D A m c (HBd.out.old ((Below.refl _ w14).drew)) (by have := hsw.size; omega) (by
      have := HLN.out; rw [HTX.out] at this
      simp only [List.length_append, List.length_cons, List.length_nil] at this ⊢
      omega) ((HTW.out.init HMU.out.symm).old ((Below.refl _ w14).drew)) HD.out)
    have hmc2 : m ≤ c := by have := HML.out; omega
    have hmI : (m : Int) ≤ (c : Int) := by omega
    go_upto_region 15 with (fail)
    refine wp_region_held_drew (S := Kb B b w14) mixed hsw (fun hS => ?_)
    refine ha_val (i := 0) rfl (by kernel_rfl) (by kernel_rfl) (by kernel_rfl) (fun _ _ _ h => h) hS rfl (fun w' hw' => ex_row rfl (g76 (Kb.look hw' hp hpb (by decide)))) ?_; try simp only [List.getElem_toArray, List.getElem_cons_succ, List.getElem_cons_zero, put_lit, List.set_cons_zero, List.set_cons_succ]
    refine ha_k (i := 1) rfl (by kernel_rfl) (by kernel_rfl) (by kernel_rfl) (fun _ _ _ _ h => h) hS rfl (fun K hK => ?_); go_simp; refine hK _ ?_; clear hK K; try simp only [put_lit, List.set_cons_zero, List.set_cons_succ]
    refine ha_val (i := 2) rfl (by kernel_rfl) (by kernel_rfl) (by kernel_rfl) (fun _ _ _ h => h) hS rfl (fun w' hw' => ex_one rfl (f3 (Kb.look hw' hq hqb (by decide)))) ?_; try simp only [List.getElem_toArray, List.getElem_cons_succ, List.getElem_cons_zero, put_lit, List.set_cons_zero, List.set_cons_succ]
    refine ha_k (i := 3) rfl (by kernel_rfl) (by kernel_rfl) (by kernel_rfl) (fun _ _ _ _ h => h) hS rfl (fun K hK => ?_); go_simp; refine hK _ ?_; clear hK K; try simp only [put_lit, List.set_cons_zero, List.set_cons_succ]
    refine ha_k (i := 4) rfl (by kernel_rfl) (by kernel_rfl) (by kernel_rfl) (fun _ _ _ _ h => h) hS rfl (fun K hK => ?_); go_simp; refine hK _ ?_; clear hK K; try simp only [put_lit, List.set_cons_zero, List.set_cons_succ]
    clear hS
    refine ha_call (i := 5) (by kernel_rfl) rfl rfl (fun K hK => ?_)
    go_simp; refine ⟨_, _, ⟨rfl, rfl⟩, hK _ _ ⟨_, HC.out, ?_⟩⟩; clear hK K; rintro e w5 ⟨rfl, hbd5, hk5⟩; refine ⟨_, rfl, hsw.trans hk5, ?_⟩
    try simp only [List.getElem_toArray, List.getElem_cons_succ, List.getElem_cons_zero, put_lit, List.set_cons_zero, List.set_cons_succ]
    have hk6 := hsw.trans hk5
    replace HBd := Lib.hid hbd5
    have hsz5 := hk6.size
    replace hp := hk6.look hp hpb (by decide)
    replace hq := hk6.look hq hqb (by decide)
    replace HTW := Lib.hid (HTW.out.kb HD.out hk6)
    replace hK := hK.trans hk6
    clear hk5 hk6 hbd5 HC hsw
    refine wpAnyH_done (by kernel_rfl) ?_ _
    have HW := Lib.hid (WriteS B b _ ⟨#[41, 32, 45, 62, 32]⟩ w5 HBd.out (by
      have := HLN.out; rw [HTX.out] at this
      simp only [List.length_append, List.length_cons, List.length_nil] at this ⊢
      have h1 : (⟨#[41, 32, 45, 62, 32]⟩ : ByteArray).size = 5 := rfl
      omega) (by omega))
    go_upto_region 16 with (fail)
    apply wp_region_lit
    (with_reducible refine wl_k ?_ ?_); exact rfl; intro K hK; go_simp; refine hK _ ?_; clear hK K
    (with_reducible refine wl_ck ?_ ?_); exact rfl; intro K hK; go_simp; refine ⟨_, _, ⟨rfl, rfl⟩, hK _ _ ⟨_, HW.out, ?_⟩⟩; clear hK K; rintro e w16 ⟨rfl, hbdw, hkw⟩; refine ⟨_, rfl, ?_⟩; simp only [put_lit, List.set_cons_zero, List.set_cons_succ]
    replace HBd := Lib.hid hbdw
    replace HTW := Lib.hid (HTW.out.kb HD.out hkw)
    have hsz16 := hkw.size
    replace hp := hkw.look hp hpb (by decide)
    replace hq := hkw.look hq hqb (by decide)
    replace hK := hK.trans hkw
    clear hkw hbdw HW
    have hmlt : m < l := by have := HML.out; omega
    have hmltI : (m : Int) < (l : Int) := by omega
    obtain ⟨x, off, rfl⟩ := HTW.out.addr hmlt
    obtain ⟨row, hrow, hta⟩ := HTW.out.rowKb b HD.out (show (us ++ [v])[m]? = some v by rw [HMU.out]; simp)
    have HRW := Lib.hid hrow
    have HTA := Lib.hid hta
    clear hrow hta
    have hsw : Kb B b w16 w16.drew := Kb.of ((Below.refl _ w16).drew) (by omega)
    have HC := Lib.hid (HI.out.2 w16.drew B b _ D row (HBd.out.old ((Below.refl _ w16).drew)) (by have := hsw.size; omega) (by
      have := HLN.out; rw [HTX.out] at this
      simp only [List.length_append, List.length_cons, List.length_nil] at this ⊢
      omega) (HTA.out.old ((Below.refl _ w16).drew)) HD.out)
    go_upto_region 17 with (fail)
    refine wp_region_held_drew (S := Kb B b w16) mixed hsw (fun hS => ?_)
    refine ha_val (i := 0) rfl (by kernel_rfl) (by kernel_rfl) (by kernel_rfl) (fun _ _ _ h => h) hS rfl (fun w' hw' => ex_row rfl (g76 (Kb.look hw' hp hpb (by decide)))) ?_; try simp only [List.getElem_toArray, List.getElem_cons_succ, List.getElem_cons_zero, put_lit, List.set_cons_zero, List.set_cons_succ]
    refine ha_k (i := 1) rfl (by kernel_rfl) (by kernel_rfl) (by kernel_rfl) (fun _ _ _ _ h => h) hS rfl (fun K hK => ?_); go_simp; refine hK _ ?_; clear hK K; try simp only [put_lit, List.set_cons_zero, List.set_cons_succ]
    refine ha_val (i := 2) rfl (by kernel_rfl) (by kernel_rfl) (by kernel_rfl) (fun _ _ _ h => h) hS rfl (fun w' hw' => ex_one rfl (f3 (Kb.look hw' hq hqb (by decide)))) ?_; try simp only [List.getElem_toArray, List.getElem_cons_succ, List.getElem_cons_zero, put_lit, List.set_cons_zero, List.set_cons_succ]
    refine ha_k (i := 3) rfl (by kernel_rfl) (by kernel_rfl) (by kernel_rfl) (fun _ _ _ _ h => h) hS rfl (fun K hK => ?_); go_simp; refine hK _ ?_; clear hK K; try simp only [put_lit, List.set_cons_zero, List.set_cons_succ]
    refine ha_k (i := 4) rfl (by kernel_rfl) (by kernel_rfl) (by kernel_rfl) (fun _ _ _ _ h => h) hS rfl (fun K hK => ?_); go_simp; refine hK _ ?_; clear hK K; try simp only [put_lit, List.set_cons_zero, List.set_cons_succ]
    refine ha_val (i := 5) rfl (by kernel_rfl) (by kernel_rfl) (by kernel_rfl) (fun _ _ _ h => h) hS rfl (fun w' hw' => ex_row rfl (HRW.out w' hw')) ?_; try simp only [List.getElem_toArray, List.getElem_cons_succ, List.getElem_cons_zero, put_lit, List.set_cons_zero, List.set_cons_succ]
    clear hS
    refine ha_call (i := 6) (by kernel_rfl) rfl rfl (fun K hK => ?_)
    go_simp; refine ⟨_, _, ⟨rfl, rfl⟩, hK _ _ ⟨_, HC.out, ?_⟩⟩; clear hK K; rintro e w6 ⟨rfl, hbd6, hk6⟩; refine ⟨_, rfl, hsw.trans hk6, ?_⟩
    try simp only [List.getElem_toArray, List.getElem_cons_succ, List.getElem_cons_zero, put_lit, List.set_cons_zero, List.set_cons_succ]
    have HBd6 : Hid (Bd w6 B b (l0 ++ txtT (.node 10 s 0 (us ++ [v])))) := Lib.hid (by rw [HTX.out]; simpa using hbd6)
    replace hK := hK.trans (hsw.trans hk6)
    clear hk6 hbd6 HC hsw hp hq HRW HTA
    refine wpAnyH_done (by kernel_rfl) ?_ _
    go_wp2_with fail
    go_end0
    exact ⟨rfl, HBd6.out, hK⟩
end Go.Proofs.YtokmaehefenpmaaDoor
