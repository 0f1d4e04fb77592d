/- The text of a function's node, written. Whether two trees are equal (EqType, EqTypes). Lists of names: the place of a name; short. Names of types: the document's TypeName. -/
import Derived.Test.YtokmaehefenpmaaDoorPA2
import Derived.Test.YtokmaehefenpmaaDoorPA1
import Derived.Deep.DeepCutAuto
namespace Go.Proofs.YtokmaehefenpmaaDoor
open Go.RowKit Go.Proofs.YtokmaehefenpmaaDoor.Nm
set_option linter.unusedSimpArgs false
theorem sep_txt : ∀ (l : List Ty) (f : Bool), txtSep f l = sepText txtT f l
  | [], f => by simp [txtSep, sepText]
  | t :: l, f => by simp [txtSep, sepText, sep_txt l false]
set_option maxHeartbeats 8000000 in
set_option maxRecDepth 100000 in
theorem typ_fn (s : ByteArray) (us : List Ty) (v : Ty) (hsz : s.size ≤ 1000000000) (hC : (∀ u, u ∈ us → TypC txtT u) ∧ TypC txtT v) : TypC txtT (.node 10 s 0 (us ++ [v])) := by
  intro w B b l0 D row hBd hB hlen h hD
  have HTX : Hid (txtT (.node 10 s 0 (us ++ [v])) = [40] ++ sepText txtT true us ++ [41, 32, 45, 62, 32] ++ txtT v) := Lib.hid (by simp [txtT, txtFn_eq, sep_txt])
  have hmf : ∀ (fn : Fn) (first cap : Array Value) (w : World), (Instr.makeFunc fn first cap).run Tryd.prog w = .ok (.func fn first cap) w := fun _ _ _ _ => rfl
  obtain ⟨k1, s1, n1, A, l, c, ts1, e, rfl, -, -, -, hT⟩ := h.parts
  cases e
  have HT := Lib.hid hT
  have HL := Lib.hid hT.len
  have HI := Lib.hid hC
  have HD := Lib.hid hD
  have HLN := Lib.hid hlen
  have hbl := hBd.lt
  have HB0 := Lib.hid hBd
  have hcm := hT.cap
  have hmx := hT.max
  unfold maxLen at hmx
  clear hT hC hD hlen hBd h
  have hb := Below.refl w.heap.size w
  go_enter Tryd.func60, Tryd.ntmps60
  go_upto_region 0 with (fail)
  apply wp_region_lit
  (with_reducible refine wl_box76 rfl ?_); intro W p hbn hlp hp; replace hb := hb.trans (hbn.mono hb.size); clear hbn; simp only [put_lit, List.set_cons_zero, List.set_cons_succ]
  have lthpq := heap_lt hp; (with_reducible refine wl_box rfl ?_); intro W0 q hbn hlq hq; replace hp := below_look hbn hp; replace hb := hb.trans (hbn.mono hb.size); clear hbn; simp only [put_lit, List.set_cons_zero, List.set_cons_succ]
  have hpb : p ≠ b := by omega
  have hqb : q ≠ b := by have := heap_lt hp; omega
  go_upto_region 1 with (fail)
  refine wp_region_held_drew (S := Below W0.heap.size W0) mixed ((Below.refl _ W0).drew) (fun hS => ?_)
  have hz1 : ¬ 9223372036854775807 < 1 + s.size := by omega
  have hz4 : ¬ 9223372036854775807 < 4 + s.size := by omega
  refine ha_k (i := 7) rfl (by kernel_rfl) (by kernel_rfl) (by kernel_rfl) (fun _ _ _ _ h => h) hS rfl (fun K hK => ?_); go_simp; refine hK _ ?_; clear hK K; try simp only [put_lit, List.set_cons_zero, List.set_cons_succ]
  refine ha_val (i := 8) rfl (by kernel_rfl) (by kernel_rfl) (by kernel_rfl) (fun _ _ _ h => h) hS rfl (fun w' hw' => ex_one rfl (f1 (below_look hw' hq))) ?_; try simp only [put_lit, List.set_cons_zero, List.set_cons_succ]
  refine ha_k (i := 10) rfl (by kernel_rfl) (by kernel_rfl) (by kernel_rfl) (fun _ _ _ _ h => h) hS rfl (fun K hK => ?_); go_simp; refine hK _ ?_; clear hK K; try simp only [put_lit, List.set_cons_zero, List.set_cons_succ]
  refine ha_val (i := 11) rfl (by kernel_rfl) (by kernel_rfl) (by kernel_rfl) (fun _ _ _ h => h) hS rfl (fun w' hw' => ex_one rfl (f1 (below_look hw' hq))) ?_; try simp only [put_lit, List.set_cons_zero, List.set_cons_succ]
  refine ha_k (i := 12) rfl (by kernel_rfl) (by kernel_rfl) (by kernel_rfl) (fun _ _ _ _ h => h) hS rfl (fun K hK => ?_); go_simp; refine hK _ ?_; clear hK K; try simp only [put_lit, List.set_cons_zero, List.set_cons_succ]
  refine ha_k (i := 14) rfl (by kernel_rfl) (by kernel_rfl) (by kernel_rfl) (fun _ _ _ _ h => h) hS rfl (fun K hK => ?_); go_simp; refine hK _ ?_; clear hK K; try simp only [put_lit, List.set_cons_zero, List.set_cons_succ]
  refine ha_val (i := 15) rfl (by kernel_rfl) (by kernel_rfl) (by kernel_rfl) (fun _ _ _ h => h) hS rfl (fun w' hw' => ex_one rfl (f1 (below_look hw' hq))) ?_; try simp only [put_lit, List.set_cons_zero, List.set_cons_succ]
  refine ha_k (i := 16) rfl (by kernel_rfl) (by kernel_rfl) (by kernel_rfl) (fun _ _ _ _ h => h) hS rfl (fun K hK => ?_); go_simp; refine hK _ ?_; clear hK K; try simp only [put_lit, List.set_cons_zero, List.set_cons_succ]
  refine ha_k (i := 18) rfl (by kernel_rfl) (by kernel_rfl) (by kernel_rfl) (fun _ _ _ _ h => h) hS rfl (fun K hK => ?_); go_simp; refine hK _ ?_; clear hK K; try simp only [put_lit, List.set_cons_zero, List.set_cons_succ]
  refine ha_val (i := 19) rfl (by kernel_rfl) (by kernel_rfl) (by kernel_rfl) (fun _ _ _ h => h) hS rfl (fun w' hw' => ex_one rfl (f2 (below_look hw' hq))) ?_; try simp only [put_lit, List.set_cons_zero, List.set_cons_succ]
  clear hz4
  obtain ⟨z, hz⟩ : ∃ z, z = (⟨(Lib.decDigits 0).toArray⟩ : ByteArray) := ⟨_, rfl⟩
  have hzl : ¬ 9223372036854775807 < 1 + z.size := by have : z.size ≤ 100 := by rw [hz]; simp [Lib.decDigits, ByteArray.size]
                                                      omega
  have HCI : Hid (∀ w, Calls Tryd.prog 81 #[.int .i64 ((0 : Nat) : Int)] w fun e w' => e = .returned (.string z) ∧ w' = w) := Lib.hid fun w => by rw [hz]; exact Tryd.strconv_Itoa_small 0 (by omega) w
  clear hz
  refine ha_two (i := 0) (j := 20) (by kernel_rfl) ?_ ?_
  · have hbm : Below W0.heap.size W0 (W0.drew.alloc (.map #[] 0)) := (Below.refl _ W0).drew.alloc (Nat.le_refl _) _
    refine sh_do (i := 0) rfl rfl (ex_mm rfl _ _) hbm ?_
    try simp only [List.getElem_toArray, List.getElem_cons_succ, List.getElem_cons_zero, put_lit, List.set_cons_zero, List.set_cons_succ]
    refine lit_A (lit_cast (by kernel_rfl)) rfl rfl hzl (r := W0.heap.size) (Nat.le_refl _) ⟨rfl, rfl, rfl, rfl⟩ ⟨rfl, rfl, rfl, rfl⟩ ⟨rfl, rfl, rfl, rfl⟩ rfl rfl rfl HCI.out (by kernel_rfl) (ha_new rfl) hbm ?_
    intro w1 es c1 hm hG hb1
    have hS := hb1
    clear hG hm
    try simp only [List.getElem_toArray, List.getElem_cons_succ, List.getElem_cons_zero, put_lit, List.set_cons_zero, List.set_cons_succ]
    refine ha_k (i := 23) rfl (by kernel_rfl) (by kernel_rfl) (by kernel_rfl) (fun _ _ _ _ h => h) hS rfl (fun K hK => ?_); go_simp; refine hK _ ?_; clear hK K; try simp only [put_lit, List.set_cons_zero, List.set_cons_succ]
    refine ha_k (i := 24) rfl (by kernel_rfl) (by kernel_rfl) (by kernel_rfl) (fun _ _ _ _ h => h) hS rfl (fun K hK => ?_); go_simp; refine hK _ ?_; clear hK K; try simp only [put_lit, List.set_cons_zero, List.set_cons_succ]
    clear hS
    refine wpAnyH_done (by kernel_rfl) ?_ _
    replace hp := below_look hb1 hp
    replace hq := below_look hb1 hq
    have hb2 := hb.trans (hb1.mono hb.size)
    have hK : Kb B b w w1 := Kb.of hb2 hB
    have HBd := Lib.hid (HB0.out.old hb2)
    have hsz1 := hb2.size
    have HTW := Lib.hid (HT.out.old hb2)
    clear hb1 hb2
    go_upto_region 2 with (fail)
    apply wp_region_lit
    (with_reducible refine wl_k ?_ ?_); exact rfl; intro K hK; go_simp; refine hK _ ?_; clear hK K
    (with_reducible apply wl_oneG); exact rfl; exact rfl; exact g72 hp
    (with_reducible refine wl_k ?_ ?_); exact rfl; intro K hK; go_simp; refine hK _ ?_; clear hK K
    (with_reducible refine wl_k ?_ ?_); exact rfl; intro K hK; go_simp; refine hK _ ?_; clear hK K
    go_upto_region 3 with (fail)
    apply wp_region_lit
    (with_reducible refine wl_k ?_ ?_); exact rfl; intro K hK; go_simp; refine hK _ ?_; clear hK K
    (first | ((with_reducible apply wl_oneG); exact rfl; exact rfl; first | exact f0 (by with_reducible assumption) | exact f1 (by with_reducible assumption) | exact f2 (by with_reducible assumption) | exact f3 (by with_reducible assumption) | with_reducible assumption | exact g22 (by with_reducible assumption) | exact g25 (by with_reducible assumption)) | ((with_reducible apply wl_rowG); exact rfl; exact rfl; first | with_reducible assumption | exact RowK.now (by with_reducible assumption) | exact f4 (by with_reducible assumption)))
    go_upto_region 9 with (fail)
    apply wp_region_lit
    (with_reducible refine wl_k ?_ ?_); exact rfl; intro K hK; go_simp; refine hK _ ?_; clear hK K
    (with_reducible refine wl_k ?_ ?_); exact rfl; intro K hK; go_simp; refine hK _ ?_; clear hK K
    go_upto_region 12 with (fail)
    apply wp_region_lit
    (with_reducible refine wl_k ?_ ?_); exact rfl; intro K hK; go_simp; refine hK _ ?_; clear hK K
    (with_reducible refine wl_k ?_ ?_); exact rfl; intro K hK; go_simp; refine hK _ ?_; clear hK K
    go_upto_region 13 with (fail)
    have hml : l = us.length + 1 := by have := HL.out; simp at this; omega
    obtain ⟨m, hm⟩ : ∃ m, m = us.length := ⟨_, rfl⟩
    have HMU := Lib.hid hm
    rw [← hm] at hml
    have HML := Lib.hid hml
    have hwr : IntKind.i64.wrap ((l : Int) - 1) = (m : Int) := by rw [IntWalk.i64_in _ (by omega)]; omega
    clear hm hml
    apply wp_region_lit
    (with_reducible refine wl_k ?_ ?_); exact rfl; intro K hK; go_simp; refine hK _ ?_; clear hK K
    (first | ((with_reducible apply wl_oneG); exact rfl; exact rfl; first | exact f0 (by with_reducible assumption) | exact f1 (by with_reducible assumption) | exact f2 (by with_reducible assumption) | exact f3 (by with_reducible assumption) | with_reducible assumption | exact g22 (by with_reducible assumption) | exact g25 (by with_reducible assumption)) | ((with_reducible apply wl_rowG); exact rfl; exact rfl; first | with_reducible assumption | exact RowK.now (by with_reducible assumption) | exact f4 (by with_reducible assumption)))
    (with_reducible refine wl_k ?_ ?_); exact rfl; intro K hK; go_simp; refine hK _ ?_; clear hK K
    (with_reducible refine wl_k ?_ ?_); exact rfl; intro K hK; go_simp; refine hK _ ?_; clear hK K
    (with_reducible refine wl_k ?_ ?_); exact rfl; intro K hK; go_simp; refine hK _ ?_; clear hK K
    clear hwr
    have HW := Lib.hid (WriteS B b _ ⟨#[40]⟩ w1 HBd.out (by
      have := HLN.out; rw [HTX.out] at this
      simp only [List.length_append, List.length_cons, List.length_nil] at this ⊢
      have h1 : (⟨#[40]⟩ : ByteArray).size = 1 := rfl
      omega) (by omega))
    go_upto_region 14 with (fail)
    apply wp_region_lit
    (with_reducible refine wl_k ?_ ?_); exact rfl; intro K hK; go_simp; refine hK _ ?_; clear hK K
    (with_reducible refine wl_ck ?_ ?_); exact rfl; intro K hK; go_simp; refine ⟨_, _, ⟨rfl, rfl⟩, hK _ _ ⟨_, HW.out, ?_⟩⟩; clear hK K; rintro e w14 ⟨rfl, hbdw, hkw⟩; refine ⟨_, rfl, ?_⟩; simp only [put_lit, List.set_cons_zero, List.set_cons_succ]
    replace HBd := Lib.hid hbdw
    replace HTW := Lib.hid (HTW.out.kb HD.out hkw)
    have hsz14 := hkw.size
    replace hp := hkw.look hp hpb (by decide)
    replace hq := hkw.look hq hqb (by decide)
    replace hK := hK.trans hkw
    clear hkw hbdw HW
    have hsw : Kb B b w14 w14.drew := Kb.of ((Below.refl _ w14).drew) (by omega)
    have HC := Lib.hid (list_any txtT us HI.out.1 w14.drew B b _ D A m c (HBd.out.old ((Below.refl _ w14).drew)) (by have := hsw.size; omega) (by
      have := HLN.out; rw [HTX.out] at this
      simp only [List.length_append, List.length_cons, List.length_nil] at this ⊢
      omega) ((HTW.out.init HMU.out.symm).old ((Below.refl _ w14).drew)) HD.out)
    have hmc2 : m ≤ c := by have := HML.out; omega
    have hmI : (m : Int) ≤ (c : Int) := by omega
    go_upto_region 15 with (fail)
    refine wp_region_held_drew (S := Kb B b w14) mixed hsw (fun hS => ?_)
    refine ha_val (i := 0) rfl (by kernel_rfl) (by kernel_rfl) (by kernel_rfl) (fun _ _ _ h => h) hS rfl (fun w' hw' => ex_row rfl (g76 (Kb.look hw' hp hpb (by decide)))) ?_; try simp only [List.getElem_toArray, List.getElem_cons_succ, List.getElem_cons_zero, put_lit, List.set_cons_zero, List.set_cons_succ]
    refine ha_k (i := 1) rfl (by kernel_rfl) (by kernel_rfl) (by kernel_rfl) (fun _ _ _ _ h => h) hS rfl (fun K hK => ?_); go_simp; refine hK _ ?_; clear hK K; try simp only [put_lit, List.set_cons_zero, List.set_cons_succ]
    refine ha_val (i := 2) rfl (by kernel_rfl) (by kernel_rfl) (by kernel_rfl) (fun _ _ _ h => h) hS rfl (fun w' hw' => ex_one rfl (f3 (Kb.look hw' hq hqb (by decide)))) ?_; try simp only [List.getElem_toArray, List.getElem_cons_succ, List.getElem_cons_zero, put_lit, List.set_cons_zero, List.set_cons_succ]
    refine ha_k (i := 3) rfl (by kernel_rfl) (by kernel_rfl) (by kernel_rfl) (fun _ _ _ _ h => h) hS rfl (fun K hK => ?_); go_simp; refine hK _ ?_; clear hK K; try simp only [put_lit, List.set_cons_zero, List.set_cons_succ]
    refine ha_k (i := 4) rfl (by kernel_rfl) (by kernel_rfl) (by kernel_rfl) (fun _ _ _ _ h => h) hS rfl (fun K hK => ?_); go_simp; refine hK _ ?_; clear hK K; try simp only [put_lit, List.set_cons_zero, List.set_cons_succ]
    clear hS
    refine ha_call (i := 5) (by kernel_rfl) rfl rfl (fun K hK => ?_)
    go_simp; refine ⟨_, _, ⟨rfl, rfl⟩, hK _ _ ⟨_, HC.out, ?_⟩⟩; clear hK K; rintro e w5 ⟨rfl, hbd5, hk5⟩; refine ⟨_, rfl, hsw.trans hk5, ?_⟩
    try simp only [List.getElem_toArray, List.getElem_cons_succ, List.getElem_cons_zero, put_lit, List.set_cons_zero, List.set_cons_succ]
    have hk6 := hsw.trans hk5
    replace HBd := Lib.hid hbd5
    have hsz5 := hk6.size
    replace hp := hk6.look hp hpb (by decide)
    replace hq := hk6.look hq hqb (by decide)
    replace HTW := Lib.hid (HTW.out.kb HD.out hk6)
    replace hK := hK.trans hk6
    clear hk5 hk6 hbd5 HC hsw
    refine wpAnyH_done (by kernel_rfl) ?_ _
    have HW := Lib.hid (WriteS B b _ ⟨#[41, 32, 45, 62, 32]⟩ w5 HBd.out (by
      have := HLN.out; rw [HTX.out] at this
      simp only [List.length_append, List.length_cons, List.length_nil] at this ⊢
      have h1 : (⟨#[41, 32, 45, 62, 32]⟩ : ByteArray).size = 5 := rfl
      omega) (by omega))
    go_upto_region 16 with (fail)
    apply wp_region_lit
    (with_reducible refine wl_k ?_ ?_); exact rfl; intro K hK; go_simp; refine hK _ ?_; clear hK K
    (with_reducible refine wl_ck ?_ ?_); exact rfl; intro K hK; go_simp; refine ⟨_, _, ⟨rfl, rfl⟩, hK _ _ ⟨_, HW.out, ?_⟩⟩; clear hK K; rintro e w16 ⟨rfl, hbdw, hkw⟩; refine ⟨_, rfl, ?_⟩; simp only [put_lit, List.set_cons_zero, List.set_cons_succ]
    replace HBd := Lib.hid hbdw
    replace HTW := Lib.hid (HTW.out.kb HD.out hkw)
    have hsz16 := hkw.size
    replace hp := hkw.look hp hpb (by decide)
    replace hq := hkw.look hq hqb (by decide)
    replace hK := hK.trans hkw
    clear hkw hbdw HW
    have hmlt : m < l := by have := HML.out; omega
    have hmltI : (m : Int) < (l : Int) := by omega
    obtain ⟨x, off, rfl⟩ := HTW.out.addr hmlt
    obtain ⟨row, hrow, hta⟩ := HTW.out.rowKb b HD.out (show (us ++ [v])[m]? = some v by rw [HMU.out]; simp)
    have HRW := Lib.hid hrow
    have HTA := Lib.hid hta
    clear hrow hta
    have hsw : Kb B b w16 w16.drew := Kb.of ((Below.refl _ w16).drew) (by omega)
    have HC := Lib.hid (HI.out.2 w16.drew B b _ D row (HBd.out.old ((Below.refl _ w16).drew)) (by have := hsw.size; omega) (by
      have := HLN.out; rw [HTX.out] at this
      simp only [List.length_append, List.length_cons, List.length_nil] at this ⊢
      omega) (HTA.out.old ((Below.refl _ w16).drew)) HD.out)
    go_upto_region 17 with (fail)
    refine wp_region_held_drew (S := Kb B b w16) mixed hsw (fun hS => ?_)
    refine ha_val (i := 0) rfl (by kernel_rfl) (by kernel_rfl) (by kernel_rfl) (fun _ _ _ h => h) hS rfl (fun w' hw' => ex_row rfl (g76 (Kb.look hw' hp hpb (by decide)))) ?_; try simp only [List.getElem_toArray, List.getElem_cons_succ, List.getElem_cons_zero, put_lit, List.set_cons_zero, List.set_cons_succ]
    refine ha_k (i := 1) rfl (by kernel_rfl) (by kernel_rfl) (by kernel_rfl) (fun _ _ _ _ h => h) hS rfl (fun K hK => ?_); go_simp; refine hK _ ?_; clear hK K; try simp only [put_lit, List.set_cons_zero, List.set_cons_succ]
    refine ha_val (i := 2) rfl (by kernel_rfl) (by kernel_rfl) (by kernel_rfl) (fun _ _ _ h => h) hS rfl (fun w' hw' => ex_one rfl (f3 (Kb.look hw' hq hqb (by decide)))) ?_; try simp only [List.getElem_toArray, List.getElem_cons_succ, List.getElem_cons_zero, put_lit, List.set_cons_zero, List.set_cons_succ]
    refine ha_k (i := 3) rfl (by kernel_rfl) (by kernel_rfl) (by kernel_rfl) (fun _ _ _ _ h => h) hS rfl (fun K hK => ?_); go_simp; refine hK _ ?_; clear hK K; try simp only [put_lit, List.set_cons_zero, List.set_cons_succ]
    refine ha_k (i := 4) rfl (by kernel_rfl) (by kernel_rfl) (by kernel_rfl) (fun _ _ _ _ h => h) hS rfl (fun K hK => ?_); go_simp; refine hK _ ?_; clear hK K; try simp only [put_lit, List.set_cons_zero, List.set_cons_succ]
    refine ha_val (i := 5) rfl (by kernel_rfl) (by kernel_rfl) (by kernel_rfl) (fun _ _ _ h => h) hS rfl (fun w' hw' => ex_row rfl (HRW.out w' hw')) ?_; try simp only [List.getElem_toArray, List.getElem_cons_succ, List.getElem_cons_zero, put_lit, List.set_cons_zero, List.set_cons_succ]
    clear hS
    refine ha_call (i := 6) (by kernel_rfl) rfl rfl (fun K hK => ?_)
    go_simp; refine ⟨_, _, ⟨rfl, rfl⟩, hK _ _ ⟨_, HC.out, ?_⟩⟩; clear hK K; rintro e w6 ⟨rfl, hbd6, hk6⟩; refine ⟨_, rfl, hsw.trans hk6, ?_⟩
    try simp only [List.getElem_toArray, List.getElem_cons_succ, List.getElem_cons_zero, put_lit, List.set_cons_zero, List.set_cons_succ]
    have HBd6 : Hid (Bd w6 B b (l0 ++ txtT (.node 10 s 0 (us ++ [v])))) := Lib.hid (by rw [HTX.out]; simpa using hbd6)
    replace hK := hK.trans (hsw.trans hk6)
    clear hk6 hbd6 HC hsw hp hq HRW HTA
    refine wpAnyH_done (by kernel_rfl) ?_ _
    go_wp2_with fail
    go_end0
    exact ⟨rfl, HBd6.out, hK⟩
  · refine sh_call (i := 20) rfl rfl (fun K hK => ?_)
    go_simp; refine ⟨_, _, ⟨rfl, rfl⟩, hK _ _ ⟨_, HCI.out _, ?_⟩⟩; clear hK K; rintro e w20 ⟨rfl, rfl⟩; refine ⟨_, rfl, (Below.refl _ W0).drew, ?_⟩
    try simp only [List.getElem_toArray, List.getElem_cons_succ, List.getElem_cons_zero, put_lit, List.set_cons_zero, List.set_cons_succ]
    refine ha_k (i := 21) rfl (by kernel_rfl) (by kernel_rfl) (by kernel_rfl) (fun _ _ _ _ h => h) hS rfl (fun K hK => ?_); go_simp; refine hK _ ?_; clear hK K; try simp only [put_lit, List.set_cons_zero, List.set_cons_succ]
    have hbm : Below W0.heap.size W0 (W0.drew.alloc (.map #[] 0)) := (Below.refl _ W0).drew.alloc (Nat.le_refl _) _
    refine ha_do (i := 0) (by kernel_rfl) rfl rfl (ex_mm rfl _ _) hbm ?_
    try simp only [List.getElem_toArray, List.getElem_cons_succ, List.getElem_cons_zero, put_lit, List.set_cons_zero, List.set_cons_succ]
    refine lit_B (lit_cast (by kernel_rfl)) rfl rfl hzl (r := W0.heap.size) (Nat.le_refl _) ⟨rfl, rfl, rfl, rfl⟩ rfl rfl rfl HCI.out (by kernel_rfl) (ha_new rfl) hbm ?_
    intro w1 es c1 hm hG hb1
    have hS := hb1
    clear hG hm
    try simp only [List.getElem_toArray, List.getElem_cons_succ, List.getElem_cons_zero, put_lit, List.set_cons_zero, List.set_cons_succ]
    refine ha_k (i := 23) rfl (by kernel_rfl) (by kernel_rfl) (by kernel_rfl) (fun _ _ _ _ h => h) hS rfl (fun K hK => ?_); go_simp; refine hK _ ?_; clear hK K; try simp only [put_lit, List.set_cons_zero, List.set_cons_succ]
    refine ha_k (i := 24) rfl (by kernel_rfl) (by kernel_rfl) (by kernel_rfl) (fun _ _ _ _ h => h) hS rfl (fun K hK => ?_); go_simp; refine hK _ ?_; clear hK K; try simp only [put_lit, List.set_cons_zero, List.set_cons_succ]
    clear hS
    refine wpAnyH_done (by kernel_rfl) ?_ _
    replace hp := below_look hb1 hp
    replace hq := below_look hb1 hq
    have hb2 := hb.trans (hb1.mono hb.size)
    have hK : Kb B b w w1 := Kb.of hb2 hB
    have HBd := Lib.hid (HB0.out.old hb2)
    have hsz1 := hb2.size
    have HTW := Lib.hid (HT.out.old hb2)
    clear hb1 hb2
    go_upto_region 2 with (fail)
    apply wp_region_lit
    (with_reducible refine wl_k ?_ ?_); exact rfl; intro K hK; go_simp; refine hK _ ?_; clear hK K
    (with_reducible apply wl_oneG); exact rfl; exact rfl; exact g72 hp
    (with_reducible refine wl_k ?_ ?_); exact rfl; intro K hK; go_simp; refine hK _ ?_; clear hK K
    (with_reducible refine wl_k ?_ ?_); exact rfl; intro K hK; go_simp; refine hK _ ?_; clear hK K
    go_upto_region 3 with (fail)
    apply wp_region_lit
    (with_reducible refine wl_k ?_ ?_); exact rfl; intro K hK; go_simp; refine hK _ ?_; clear hK K
    (first | ((with_reducible apply wl_oneG); exact rfl; exact rfl; first | exact f0 (by with_reducible assumption) | exact f1 (by with_reducible assumption) | exact f2 (by with_reducible assumption) | exact f3 (by with_reducible assumption) | with_reducible assumption | exact g22 (by with_reducible assumption) | exact g25 (by with_reducible assumption)) | ((with_reducible apply wl_rowG); exact rfl; exact rfl; first | with_reducible assumption | exact RowK.now (by with_reducible assumption) | exact f4 (by with_reducible assumption)))
    go_upto_region 9 with (fail)
    apply wp_region_lit
    (with_reducible refine wl_k ?_ ?_); exact rfl; intro K hK; go_simp; refine hK _ ?_; clear hK K
    (with_reducible refine wl_k ?_ ?_); exact rfl; intro K hK; go_simp; refine hK _ ?_; clear hK K
    go_upto_region 12 with (fail)
    apply wp_region_lit
    (with_reducible refine wl_k ?_ ?_); exact rfl; intro K hK; go_simp; refine hK _ ?_; clear hK K
    (with_reducible refine wl_k ?_ ?_); exact rfl; intro K hK; go_simp; refine hK _ ?_; clear hK K
    go_upto_region 13 with (fail)
    have hml : l = us.length + 1 := by have := HL.out; simp at this; omega
    obtain ⟨m, hm⟩ : ∃ m, m = us.length := ⟨_, rfl⟩
    have HMU := Lib.hid hm
    rw [← hm] at hml
    have HML := Lib.hid hml
    have hwr : IntKind.i64.wrap ((l : Int) - 1) = (m : Int) := by rw [IntWalk.i64_in _ (by omega)]; omega
    clear hm hml
    apply wp_region_lit
    (with_reducible refine wl_k ?_ ?_); exact rfl; intro K hK; go_simp; refine hK _ ?_; clear hK K
    (first | ((with_reducible apply wl_oneG); exact rfl; exact rfl; first | exact f0 (by with_reducible assumption) | exact f1 (by with_reducible assumption) | exact f2 (by with_reducible assumption) | exact f3 (by with_reducible assumption) | with_reducible assumption | exact g22 (by with_reducible assumption) | exact g25 (by with_reducible assumption)) | ((with_reducible apply wl_rowG); exact rfl; exact rfl; first | with_reducible assumption | exact RowK.now (by with_reducible assumption) | exact f4 (by with_reducible assumption)))
    (with_reducible refine wl_k ?_ ?_); exact rfl; intro K hK; go_simp; refine hK _ ?_; clear hK K
    (with_reducible refine wl_k ?_ ?_); exact rfl; intro K hK; go_simp; refine hK _ ?_; clear hK K
    (with_reducible refine wl_k ?_ ?_); exact rfl; intro K hK; go_simp; refine hK _ ?_; clear hK K
    clear hwr
    have HW := Lib.hid (WriteS B b _ ⟨#[40]⟩ w1 HBd.out (by
      have := HLN.out; rw [HTX.out] at this
      simp only [List.length_append, List.length_cons, List.length_nil] at this ⊢
      have h1 : (⟨#[40]⟩ : ByteArray).size = 1 := rfl
      omega) (by omega))
    go_upto_region 14 with (fail)
    apply wp_region_lit
    (with_reducible refine wl_k ?_ ?_); exact rfl; intro K hK; go_simp; refine hK _ ?_; clear hK K
    (with_reducible refine wl_ck ?_ ?_); exact rfl; intro K hK; go_simp; refine ⟨_, _, ⟨rfl, rfl⟩, hK _ _ ⟨_, HW.out, ?_⟩⟩; clear hK K; rintro e w14 ⟨rfl, hbdw, hkw⟩; refine ⟨_, rfl, ?_⟩; simp only [put_lit, List.set_cons_zero, List.set_cons_succ]
    replace HBd := Lib.hid hbdw
    replace HTW := Lib.hid (HTW.out.kb HD.out hkw)
    have hsz14 := hkw.size
    replace hp := hkw.look hp hpb (by decide)
    replace hq := hkw.look hq hqb (by decide)
    replace hK := hK.trans hkw
    clear hkw hbdw HW
    have hsw : Kb B b w14 w14.drew := Kb.of ((Below.refl _ w14).drew) (by omega)
    have HC := Lib.hid (list_any txtT us HI.out.1 w14.drew B b _ D A m c (HBd.out.old ((Below.refl _ w14).drew)) (by have := hsw.size; omega) (by
      have := HLN.out; rw [HTX.out] at this
      simp only [List.length_append, List.length_cons, List.length_nil] at this ⊢
      omega) ((HTW.out.init HMU.out.symm).old ((Below.refl _ w14).drew)) HD.out)
    have hmc2 : m ≤ c := by have := HML.out; omega
    have hmI : (m : Int) ≤ (c : Int) := by omega
    go_upto_region 15 with (fail)
    refine wp_region_held_drew (S := Kb B b w14) mixed hsw (fun hS => ?_)
    refine ha_val (i := 0) rfl (by kernel_rfl) (by kernel_rfl) (by kernel_rfl) (fun _ _ _ h => h) hS rfl (fun w' hw' => ex_row rfl (g76 (Kb.look hw' hp hpb (by decide)))) ?_; try simp only [List.getElem_toArray, List.getElem_cons_succ, List.getElem_cons_zero, put_lit, List.set_cons_zero, List.set_cons_succ]
    refine ha_k (i := 1) rfl (by kernel_rfl) (by kernel_rfl) (by kernel_rfl) (fun _ _ _ _ h => h) hS rfl (fun K hK => ?_); go_simp; refine hK _ ?_; clear hK K; try simp only [put_lit, List.set_cons_zero, List.set_cons_succ]
    refine ha_val (i := 2) rfl (by kernel_rfl) (by kernel_rfl) (by kernel_rfl) (fun _ _ _ h => h) hS rfl (fun w' hw' => ex_one rfl (f3 (Kb.look hw' hq hqb (by decide)))) ?_; try simp only [List.getElem_toArray, List.getElem_cons_succ, List.getElem_cons_zero, put_lit, List.set_cons_zero, List.set_cons_succ]
    refine ha_k (i := 3) rfl (by kernel_rfl) (by kernel_rfl) (by kernel_rfl) (fun _ _ _ _ h => h) hS rfl (fun K hK => ?_); go_simp; refine hK _ ?_; clear hK K; try simp only [put_lit, List.set_cons_zero, List.set_cons_succ]
    refine ha_k (i := 4) rfl (by kernel_rfl) (by kernel_rfl) (by kernel_rfl) (fun _ _ _ _ h => h) hS rfl (fun K hK => ?_); go_simp; refine hK _ ?_; clear hK K; try simp only [put_lit, List.set_cons_zero, List.set_cons_succ]
    clear hS
    refine ha_call (i := 5) (by kernel_rfl) rfl rfl (fun K hK => ?_)
    go_simp; refine ⟨_, _, ⟨rfl, rfl⟩, hK _ _ ⟨_, HC.out, ?_⟩⟩; clear hK K; rintro e w5 ⟨rfl, hbd5, hk5⟩; refine ⟨_, rfl, hsw.trans hk5, ?_⟩
    try simp only [List.getElem_toArray, List.getElem_cons_succ, List.getElem_cons_zero, put_lit, List.set_cons_zero, List.set_cons_succ]
    have hk6 := hsw.trans hk5
    replace HBd := Lib.hid hbd5
    have hsz5 := hk6.size
    replace hp := hk6.look hp hpb (by decide)
    replace hq := hk6.look hq hqb (by decide)
    replace HTW := Lib.hid (HTW.out.kb HD.out hk6)
    replace hK := hK.trans hk6
    clear hk5 hk6 hbd5 HC hsw
    refine wpAnyH_done (by kernel_rfl) ?_ _
    have HW := Lib.hid (WriteS B b _ ⟨#[41, 32, 45, 62, 32]⟩ w5 HBd.out (by
      have := HLN.out; rw [HTX.out] at this
      simp only [List.length_append, List.length_cons, List.length_nil] at this ⊢
      have h1 : (⟨#[41, 32, 45, 62, 32]⟩ : ByteArray).size = 5 := rfl
      omega) (by omega))
    go_upto_region 16 with (fail)
    apply wp_region_lit
    (with_reducible refine wl_k ?_ ?_); exact rfl; intro K hK; go_simp; refine hK _ ?_; clear hK K
    (with_reducible refine wl_ck ?_ ?_); exact rfl; intro K hK; go_simp; refine ⟨_, _, ⟨rfl, rfl⟩, hK _ _ ⟨_, HW.out, ?_⟩⟩; clear hK K; rintro e w16 ⟨rfl, hbdw, hkw⟩; refine ⟨_, rfl, ?_⟩; simp only [put_lit, List.set_cons_zero, List.set_cons_succ]
    replace HBd := Lib.hid hbdw
    replace HTW := Lib.hid (HTW.out.kb HD.out hkw)
    have hsz16 := hkw.size
    replace hp := hkw.look hp hpb (by decide)
    replace hq := hkw.look hq hqb (by decide)
    replace hK := hK.trans hkw
    clear hkw hbdw HW
    have hmlt : m < l := by have := HML.out; omega
    have hmltI : (m : Int) < (l : Int) := by omega
    obtain ⟨x, off, rfl⟩ := HTW.out.addr hmlt
    obtain ⟨row, hrow, hta⟩ := HTW.out.rowKb b HD.out (show (us ++ [v])[m]? = some v by rw [HMU.out]; simp)
    have HRW := Lib.hid hrow
    have HTA := Lib.hid hta
    clear hrow hta
    have hsw : Kb B b w16 w16.drew := Kb.of ((Below.refl _ w16).drew) (by omega)
    have HC := Lib.hid (HI.out.2 w16.drew B b _ D row (HBd.out.old ((Below.refl _ w16).drew)) (by have := hsw.size; omega) (by
      have := HLN.out; rw [HTX.out] at this
      simp only [List.length_append, List.length_cons, List.length_nil] at this ⊢
      omega) (HTA.out.old ((Below.refl _ w16).drew)) HD.out)
    go_upto_region 17 with (fail)
    refine wp_region_held_drew (S := Kb B b w16) mixed hsw (fun hS => ?_)
    refine ha_val (i := 0) rfl (by kernel_rfl) (by kernel_rfl) (by kernel_rfl) (fun _ _ _ h => h) hS rfl (fun w' hw' => ex_row rfl (g76 (Kb.look hw' hp hpb (by decide)))) ?_; try simp only [List.getElem_toArray, List.getElem_cons_succ, List.getElem_cons_zero, put_lit, List.set_cons_zero, List.set_cons_succ]
    refine ha_k (i := 1) rfl (by kernel_rfl) (by kernel_rfl) (by kernel_rfl) (fun _ _ _ _ h => h) hS rfl (fun K hK => ?_); go_simp; refine hK _ ?_; clear hK K; try simp only [put_lit, List.set_cons_zero, List.set_cons_succ]
    refine ha_val (i := 2) rfl (by kernel_rfl) (by kernel_rfl) (by kernel_rfl) (fun _ _ _ h => h) hS rfl (fun w' hw' => ex_one rfl (f3 (Kb.look hw' hq hqb (by decide)))) ?_; try simp only [List.getElem_toArray, List.getElem_cons_succ, List.getElem_cons_zero, put_lit, List.set_cons_zero, List.set_cons_succ]
    refine ha_k (i := 3) rfl (by kernel_rfl) (by kernel_rfl) (by kernel_rfl) (fun _ _ _ _ h => h) hS rfl (fun K hK => ?_); go_simp; refine hK _ ?_; clear hK K; try simp only [put_lit, List.set_cons_zero, List.set_cons_succ]
    refine ha_k (i := 4) rfl (by kernel_rfl) (by kernel_rfl) (by kernel_rfl) (fun _ _ _ _ h => h) hS rfl (fun K hK => ?_); go_simp; refine hK _ ?_; clear hK K; try simp only [put_lit, List.set_cons_zero, List.set_cons_succ]
    refine ha_val (i := 5) rfl (by kernel_rfl) (by kernel_rfl) (by kernel_rfl) (fun _ _ _ h => h) hS rfl (fun w' hw' => ex_row rfl (HRW.out w' hw')) ?_; try simp only [List.getElem_toArray, List.getElem_cons_succ, List.getElem_cons_zero, put_lit, List.set_cons_zero, List.set_cons_succ]
    clear hS
    refine ha_call (i := 6) (by kernel_rfl) rfl rfl (fun K hK => ?_)
    go_simp; refine ⟨_, _, ⟨rfl, rfl⟩, hK _ _ ⟨_, HC.out, ?_⟩⟩; clear hK K; rintro e w6 ⟨rfl, hbd6, hk6⟩; refine ⟨_, rfl, hsw.trans hk6, ?_⟩
    try simp only [List.getElem_toArray, List.getElem_cons_succ, List.getElem_cons_zero, put_lit, List.set_cons_zero, List.set_cons_succ]
    have HBd6 : Hid (Bd w6 B b (l0 ++ txtT (.node 10 s 0 (us ++ [v])))) := Lib.hid (by rw [HTX.out]; simpa using hbd6)
    replace hK := hK.trans (hsw.trans hk6)
    clear hk6 hbd6 HC hsw hp hq HRW HTA
    refine wpAnyH_done (by kernel_rfl) ?_ _
    go_wp2_with fail
    go_end0
    exact ⟨rfl, HBd6.out, hK⟩
end Go.Proofs.YtokmaehefenpmaaDoor
namespace Go.Proofs.YtokmaehefenpmaaDoor
open Go.RowKit Go.Proofs.YtokmaehefenpmaaDoor.Nm
set_option linter.unusedSimpArgs false
theorem bytes_inj {s t : ByteArray} (h : s.toList = t.toList) : s = t := by
  rw [ByteArray.toList_eq, ByteArray.toList_eq] at h
  cases s; cases t
  exact congrArg _ (Array.toList_inj.1 h)
def eqTy (t u : Ty) : Bool := decide (t = u)
def eqTys (t u : List Ty) : Bool := decide (t = u)
def EqC (t : Ty) : Prop := ∀ (u : Ty) (w : World) (D D' : Nat → Prop) (row row' : Array Value), TyAt w D t row → TyAt w D' u row' →
  Calls Tryd.prog 21 #[.agg row, .agg row'] w fun e w' => e = .returned (.bool (eqTy t u)) ∧ Below w.heap.size w w'
set_option maxHeartbeats 2000000 in
set_option maxRecDepth 100000 in
theorem EqTypes_of (ts us : List Ty) (ih : ∀ t, t ∈ ts → EqC t) (A A' : Option Addr) (l c l' c' : Nat) (w : World) (D D' : Nat → Prop) (h : TysAt w D ts A l c) (h' : TysAt w D' us A' l' c') :
    Calls Tryd.prog 31 #[.slice A l c, .slice A' l' c'] w fun e w' => e = .returned (.bool (eqTys ts us)) ∧ Below w.heap.size w w' := by
  have HT := Lib.hid h
  have HU := Lib.hid h'
  have HL := Lib.hid h.len
  have HL' := Lib.hid h'.len
  have HI := Lib.hid ih
  have hcm := h.cap
  have hmx := h.max
  have hcm' := h'.cap
  have hmx' := h'.max
  unfold maxLen at hmx hmx'
  clear h h' ih
  have hb := Below.refl w.heap.size w
  by_cases hne : l = l'
  · subst hne
    have hz : ((l : Int) != (l : Int)) = false := by simp
    go_enter Tryd.func31, Tryd.ntmps31
    go_wp2_with fail
    go_loopw [5] (fun i wr => ∃ j : Nat, j ≤ l ∧ i = .int .i64 (j : Int) ∧ Hid (ts.take j = us.take j) ∧ Below w.heap.size w wr) (fun i _ => l - (intOf i).toNat)
    case atStart => exact ⟨0, by omega, rfl, Lib.hid rfl, hb⟩
    case round =>
      clear hb
      obtain ⟨j, hj, rfl, HR, hb⟩ := hrel
      by_cases hlt : j < l
      · have hltI : (j : Int) < (l : Int) := by omega
        obtain ⟨b, off, t, row, rfl, -, ht, -⟩ := HT.out.get hlt
        obtain ⟨b', off', u, row', rfl, -, hu, -⟩ := HU.out.get hlt
        obtain ⟨row, hrow, hta⟩ := (HT.out.old hb).rowK ht
        obtain ⟨row', hrow', hua⟩ := (HU.out.old hb).rowK hu
        have HTA := Lib.hid hta
        have HUA := Lib.hid hua
        have HE := Lib.hid (HI.out t (List.mem_of_getElem? ht) u)
        have hstep : ts.take (j + 1) = us.take (j + 1) ↔ t = u := by
          rw [List.take_add_one, List.take_add_one, HR.out, ht, hu]
          simp
        by_cases hq : t = u
        · have HR2 := Lib.hid (hstep.2 hq)
          have HC : Hid (∀ w', Below wr.heap.size wr w' → Calls Tryd.prog 21 #[.agg row, .agg row'] w' fun e w2 => e = .returned (.bool true) ∧ Below w'.heap.size w' w2) := Lib.hid fun w' hw' => by
            have := HE.out w' D D' row row' (HTA.out.old hw') (HUA.out.old hw')
            rwa [show eqTy t u = true by simp [eqTy, hq]] at this
          clear hta hua hstep hq ht hu HE HTA HUA HR
          go_upto_region 6 with (fail)
          refine wp_region_belowAll mixed (by kernel_rfl) ?_
          (with_reducible refine wq_k ?_ ?_); exact rfl; intro K hK; go_simp; (with_reducible refine hK _ ?_); clear hK K
          (with_reducible refine wq_k ?_ ?_); exact rfl; intro K hK; go_simp; (with_reducible refine hK _ ?_); clear hK K
          (with_reducible refine wq_k ?_ ?_); exact rfl; intro K hK; go_simp; (with_reducible refine hK _ ?_); clear hK K
          (first | ((with_reducible apply wq_one); exact rfl; exact rfl; intro w' hw'; first | exact f0 (below_look hw' (by with_reducible assumption)) | exact f1 (below_look hw' (by with_reducible assumption)) | exact f2 (below_look hw' (by with_reducible assumption)) | exact f3 (below_look hw' (by with_reducible assumption)) ) | ((with_reducible apply wq_row); exact rfl; exact rfl; intro w' hw'; first | exact RowK.at (by with_reducible assumption) hw' | exact f4 (below_look hw' (by with_reducible assumption))))
          (with_reducible refine wq_k ?_ ?_); exact rfl; intro K hK; go_simp; (with_reducible refine hK _ ?_); clear hK K
          (with_reducible refine wq_k ?_ ?_); exact rfl; intro K hK; go_simp; (with_reducible refine hK _ ?_); clear hK K
          (with_reducible refine wq_k ?_ ?_); exact rfl; intro K hK; go_simp; (with_reducible refine hK _ ?_); clear hK K
          (first | ((with_reducible apply wq_one); exact rfl; exact rfl; intro w' hw'; first | exact f0 (below_look hw' (by with_reducible assumption)) | exact f1 (below_look hw' (by with_reducible assumption)) | exact f2 (below_look hw' (by with_reducible assumption)) | exact f3 (below_look hw' (by with_reducible assumption)) ) | ((with_reducible apply wq_row); exact rfl; exact rfl; intro w' hw'; first | exact RowK.at (by with_reducible assumption) hw' | exact f4 (below_look hw' (by with_reducible assumption))))
          refine wq_ck rfl (fun K hK => ?_); go_simp; refine ⟨_, _, ⟨rfl, rfl⟩, hK _ _ ⟨_, fun w' hw' => calls_class hw' (HC.out w' hw'), ?_⟩⟩; clear hK K; simp only [put_lit, List.set_cons_zero, List.set_cons_succ]
          (with_reducible refine wq_k ?_ ?_); exact rfl; intro K hK; go_simp; (with_reducible refine hK _ ?_); clear hK K
          intro w7 hb7
          replace hb := hb.trans (hb7.mono hb.size)
          clear hb7 HC hrow hrow'
          go_wp2_with fail
          go_roundw
          case rel => exact ⟨j + 1, by omega, by go_num, HR2, hb⟩
          case measure => simp [intOf]; omega
        · have HF : Hid (eqTys ts us = false) := Lib.hid (by
            simp only [eqTys, decide_eq_false_iff_not]; intro e; exact hq (hstep.1 (by rw [e])))
          have HC : Hid (∀ w', Below wr.heap.size wr w' → Calls Tryd.prog 21 #[.agg row, .agg row'] w' fun e w2 => e = .returned (.bool false) ∧ Below w'.heap.size w' w2) := Lib.hid fun w' hw' => by
            have := HE.out w' D D' row row' (HTA.out.old hw') (HUA.out.old hw')
            rwa [show eqTy t u = false by simp [eqTy, hq]] at this
          clear hta hua hstep hq ht hu HE HTA HUA HR
          go_upto_region 6 with (fail)
          refine wp_region_belowAll mixed (by kernel_rfl) ?_
          (with_reducible refine wq_k ?_ ?_); exact rfl; intro K hK; go_simp; (with_reducible refine hK _ ?_); clear hK K
          (with_reducible refine wq_k ?_ ?_); exact rfl; intro K hK; go_simp; (with_reducible refine hK _ ?_); clear hK K
          (with_reducible refine wq_k ?_ ?_); exact rfl; intro K hK; go_simp; (with_reducible refine hK _ ?_); clear hK K
          (first | ((with_reducible apply wq_one); exact rfl; exact rfl; intro w' hw'; first | exact f0 (below_look hw' (by with_reducible assumption)) | exact f1 (below_look hw' (by with_reducible assumption)) | exact f2 (below_look hw' (by with_reducible assumption)) | exact f3 (below_look hw' (by with_reducible assumption)) ) | ((with_reducible apply wq_row); exact rfl; exact rfl; intro w' hw'; first | exact RowK.at (by with_reducible assumption) hw' | exact f4 (below_look hw' (by with_reducible assumption))))
          (with_reducible refine wq_k ?_ ?_); exact rfl; intro K hK; go_simp; (with_reducible refine hK _ ?_); clear hK K
          (with_reducible refine wq_k ?_ ?_); exact rfl; intro K hK; go_simp; (with_reducible refine hK _ ?_); clear hK K
          (with_reducible refine wq_k ?_ ?_); exact rfl; intro K hK; go_simp; (with_reducible refine hK _ ?_); clear hK K
          (first | ((with_reducible apply wq_one); exact rfl; exact rfl; intro w' hw'; first | exact f0 (below_look hw' (by with_reducible assumption)) | exact f1 (below_look hw' (by with_reducible assumption)) | exact f2 (below_look hw' (by with_reducible assumption)) | exact f3 (below_look hw' (by with_reducible assumption)) ) | ((with_reducible apply wq_row); exact rfl; exact rfl; intro w' hw'; first | exact RowK.at (by with_reducible assumption) hw' | exact f4 (below_look hw' (by with_reducible assumption))))
          refine wq_ck rfl (fun K hK => ?_); go_simp; refine ⟨_, _, ⟨rfl, rfl⟩, hK _ _ ⟨_, fun w' hw' => calls_class hw' (HC.out w' hw'), ?_⟩⟩; clear hK K; simp only [put_lit, List.set_cons_zero, List.set_cons_succ]
          (with_reducible refine wq_k ?_ ?_); exact rfl; intro K hK; go_simp; (with_reducible refine hK _ ?_); clear hK K
          intro w7 hb7
          replace hb := hb.trans (hb7.mono hb.size)
          clear hb7 HC hrow hrow'
          go_wp2_with fail
          go_ret
          exact ⟨by rw [HF.out]; rfl, hb⟩
      · have hltI : ¬ (j : Int) < (l : Int) := by omega
        have HF : Hid (eqTys ts us = true) := Lib.hid (by
          have := HR.out
          rw [List.take_of_length_le (by rw [HL.out]; omega), List.take_of_length_le (by rw [HL'.out]; omega)] at this
          simp [eqTys, this])
        clear HR
        go_wp2_with fail
        go_ret
        exact ⟨by rw [HF.out]; rfl, hb⟩
  · have hz : ((l : Int) != (l' : Int)) = true := bne_iff_ne.2 (by omega)
    have HF : Hid (eqTys ts us = false) := Lib.hid (by simp only [eqTys, decide_eq_false_iff_not]; intro e; subst e; exact hne (HL.out.symm.trans HL'.out))
    go_enter Tryd.func31, Tryd.ntmps31
    go_wp2_with fail
    go_ret
    exact ⟨by rw [HF.out]; rfl, hb⟩
set_option maxHeartbeats 4000000 in
set_option maxRecDepth 100000 in
theorem EqType_any : ∀ t : Ty, EqC t := Ty.ind fun k s n ts ih u w D D' row row' h h' => by
  obtain ⟨k1, s1, n1, A, l, c, ts1, e, rfl, hk, hn, hs, hT⟩ := h.parts
  cases e
  obtain ⟨k', s', n', A', l', c', us, rfl, rfl, hk', hn', hs', hU⟩ := h'.parts
  have HT := Lib.hid hT
  have HU := Lib.hid hU
  have HI := Lib.hid ih
  clear h h' hk hn hs hT ih hk' hn' hs' hU
  obtain ⟨B, hB⟩ : ∃ B, B = eqTy (.node k s n ts) (.node k' s' n' us) := ⟨_, rfl⟩
  have HB := Lib.hid hB
  rw [← hB]
  clear hB
  go_enter Tryd.func21, Tryd.ntmps21
  go_upto_region 0 with (fail)
  apply wp_region_lit
  (with_reducible refine wl_box rfl ?_); intro W p hbn hlp hp; simp only [put_lit, List.set_cons_zero, List.set_cons_succ]
  have hb := hbn
  clear hbn
  (with_reducible refine wl_box rfl ?_); intro W2 q hbn hlq hq; simp only [put_lit, List.set_cons_zero, List.set_cons_succ]
  replace hp := below_look hbn hp
  replace hb := hb.trans (hbn.mono hb.size); clear hbn
  (with_reducible refine wl_k ?_ ?_); exact rfl; intro K hK; go_simp; refine hK _ ?_; clear hK K
  by_cases h1 : k = k'
  · have e1 : (k == k') = true := beq_iff_eq.2 h1
    by_cases h2 : s = s'
    · have e2 : (s.toList == s'.toList) = true := beq_iff_eq.2 (by rw [h2])
      by_cases h3 : n = n'
      · have e3 : (n == n') = true := beq_iff_eq.2 h3
        have HC := Lib.hid (EqTypes_of ts us HI.out A A' l c l' c' W2 D D' (HT.out.old hb) (HU.out.old hb))
        have hBe : B = eqTys ts us := by rw [HB.out]; simp [eqTy, eqTys, h1, h2, h3]
        rw [← hBe] at HC
        clear h1 h2 h3 HB hBe
        go_upto_region 1 with (fail)
        apply wp_region_lit
        (with_reducible refine wl_k ?_ ?_); exact rfl; intro K hK; go_simp; refine hK _ ?_; clear hK K
        (first | ((with_reducible apply wl_oneG); exact rfl; exact rfl; first | exact f0 (by with_reducible assumption) | exact f1 (by with_reducible assumption) | exact f2 (by with_reducible assumption) | exact f3 (by with_reducible assumption) | with_reducible assumption | exact g22 (by with_reducible assumption) | exact g25 (by with_reducible assumption)) | ((with_reducible apply wl_rowG); exact rfl; exact rfl; first | with_reducible assumption | exact RowK.now (by with_reducible assumption) | exact f4 (by with_reducible assumption)))
        (with_reducible refine wl_k ?_ ?_); exact rfl; intro K hK; go_simp; refine hK _ ?_; clear hK K
        (first | ((with_reducible apply wl_oneG); exact rfl; exact rfl; first | exact f0 (by with_reducible assumption) | exact f1 (by with_reducible assumption) | exact f2 (by with_reducible assumption) | exact f3 (by with_reducible assumption) | with_reducible assumption | exact g22 (by with_reducible assumption) | exact g25 (by with_reducible assumption)) | ((with_reducible apply wl_rowG); exact rfl; exact rfl; first | with_reducible assumption | exact RowK.now (by with_reducible assumption) | exact f4 (by with_reducible assumption)))
        (with_reducible refine wl_k ?_ ?_); exact rfl; intro K hK; go_simp; refine hK _ ?_; clear hK K
        (with_reducible refine wl_k ?_ ?_); exact rfl; intro K hK; go_simp; refine hK _ ?_; clear hK K
        (with_reducible refine wl_k ?_ ?_); exact rfl; intro K hK; go_simp; refine hK _ ?_; clear hK K
        (first | ((with_reducible apply wl_oneG); exact rfl; exact rfl; first | exact f0 (by with_reducible assumption) | exact f1 (by with_reducible assumption) | exact f2 (by with_reducible assumption) | exact f3 (by with_reducible assumption) | with_reducible assumption | exact g22 (by with_reducible assumption) | exact g25 (by with_reducible assumption)) | ((with_reducible apply wl_rowG); exact rfl; exact rfl; first | with_reducible assumption | exact RowK.now (by with_reducible assumption) | exact f4 (by with_reducible assumption)))
        (with_reducible refine wl_k ?_ ?_); exact rfl; intro K hK; go_simp; refine hK _ ?_; clear hK K
        (first | ((with_reducible apply wl_oneG); exact rfl; exact rfl; first | exact f0 (by with_reducible assumption) | exact f1 (by with_reducible assumption) | exact f2 (by with_reducible assumption) | exact f3 (by with_reducible assumption) | with_reducible assumption | exact g22 (by with_reducible assumption) | exact g25 (by with_reducible assumption)) | ((with_reducible apply wl_rowG); exact rfl; exact rfl; first | with_reducible assumption | exact RowK.now (by with_reducible assumption) | exact f4 (by with_reducible assumption)))
        (with_reducible refine wl_k ?_ ?_); exact rfl; intro K hK; go_simp; refine hK _ ?_; clear hK K
        (with_reducible refine wl_k ?_ ?_); exact rfl; intro K hK; go_simp; refine hK _ ?_; clear hK K
        (with_reducible refine wl_k ?_ ?_); exact rfl; intro K hK; go_simp; refine hK _ ?_; clear hK K
        (with_reducible refine wl_k ?_ ?_); exact rfl; intro K hK; go_simp; refine hK _ ?_; clear hK K
        (first | ((with_reducible apply wl_oneG); exact rfl; exact rfl; first | exact f0 (by with_reducible assumption) | exact f1 (by with_reducible assumption) | exact f2 (by with_reducible assumption) | exact f3 (by with_reducible assumption) | with_reducible assumption | exact g22 (by with_reducible assumption) | exact g25 (by with_reducible assumption)) | ((with_reducible apply wl_rowG); exact rfl; exact rfl; first | with_reducible assumption | exact RowK.now (by with_reducible assumption) | exact f4 (by with_reducible assumption)))
        (with_reducible refine wl_k ?_ ?_); exact rfl; intro K hK; go_simp; refine hK _ ?_; clear hK K
        (first | ((with_reducible apply wl_oneG); exact rfl; exact rfl; first | exact f0 (by with_reducible assumption) | exact f1 (by with_reducible assumption) | exact f2 (by with_reducible assumption) | exact f3 (by with_reducible assumption) | with_reducible assumption | exact g22 (by with_reducible assumption) | exact g25 (by with_reducible assumption)) | ((with_reducible apply wl_rowG); exact rfl; exact rfl; first | with_reducible assumption | exact RowK.now (by with_reducible assumption) | exact f4 (by with_reducible assumption)))
        (with_reducible refine wl_k ?_ ?_); exact rfl; intro K hK; go_simp; refine hK _ ?_; clear hK K
        (with_reducible refine wl_k ?_ ?_); exact rfl; intro K hK; go_simp; refine hK _ ?_; clear hK K
        (with_reducible refine wl_k ?_ ?_); exact rfl; intro K hK; go_simp; refine hK _ ?_; clear hK K
        (with_reducible refine wl_k ?_ ?_); exact rfl; intro K hK; go_simp; refine hK _ ?_; clear hK K
        (first | ((with_reducible apply wl_oneG); exact rfl; exact rfl; first | exact f0 (by with_reducible assumption) | exact f1 (by with_reducible assumption) | exact f2 (by with_reducible assumption) | exact f3 (by with_reducible assumption) | with_reducible assumption | exact g22 (by with_reducible assumption) | exact g25 (by with_reducible assumption)) | ((with_reducible apply wl_rowG); exact rfl; exact rfl; first | with_reducible assumption | exact RowK.now (by with_reducible assumption) | exact f4 (by with_reducible assumption)))
        (with_reducible refine wl_k ?_ ?_); exact rfl; intro K hK; go_simp; refine hK _ ?_; clear hK K
        (first | ((with_reducible apply wl_oneG); exact rfl; exact rfl; first | exact f0 (by with_reducible assumption) | exact f1 (by with_reducible assumption) | exact f2 (by with_reducible assumption) | exact f3 (by with_reducible assumption) | with_reducible assumption | exact g22 (by with_reducible assumption) | exact g25 (by with_reducible assumption)) | ((with_reducible apply wl_rowG); exact rfl; exact rfl; first | with_reducible assumption | exact RowK.now (by with_reducible assumption) | exact f4 (by with_reducible assumption)))
        (with_reducible refine wl_ck ?_ ?_); exact rfl; intro K hK; go_simp; refine ⟨_, _, ⟨rfl, rfl⟩, hK _ _ ⟨_, HC.out, ?_⟩⟩; clear hK K; rintro e w7 ⟨rfl, hb7⟩; refine ⟨_, rfl, ?_⟩; simp only [put_lit, List.set_cons_zero, List.set_cons_succ]
        (with_reducible refine wl_k ?_ ?_); exact rfl; intro K hK; go_simp; refine hK _ ?_; clear hK K
        (with_reducible refine wl_k ?_ ?_); exact rfl; intro K hK; go_simp; refine hK _ ?_; clear hK K
        replace hb := hb.trans (hb7.mono hb.size)
        clear hb7 HC
        go_wp2_with fail
        go_ret
        exact ⟨rfl, hb⟩
      · have e3 : (n == n') = false := beq_eq_false_iff_ne.2 h3
        obtain rfl : B = false := by rw [HB.out]; simp [eqTy, h3]
        clear h1 h2 h3
        go_upto_region 1 with (fail)
        apply wp_region_lit
        (with_reducible refine wl_k ?_ ?_); exact rfl; intro K hK; go_simp; refine hK _ ?_; clear hK K
        (first | ((with_reducible apply wl_oneG); exact rfl; exact rfl; first | exact f0 (by with_reducible assumption) | exact f1 (by with_reducible assumption) | exact f2 (by with_reducible assumption) | exact f3 (by with_reducible assumption) | with_reducible assumption | exact g22 (by with_reducible assumption) | exact g25 (by with_reducible assumption)) | ((with_reducible apply wl_rowG); exact rfl; exact rfl; first | with_reducible assumption | exact RowK.now (by with_reducible assumption) | exact f4 (by with_reducible assumption)))
        (with_reducible refine wl_k ?_ ?_); exact rfl; intro K hK; go_simp; refine hK _ ?_; clear hK K
        (first | ((with_reducible apply wl_oneG); exact rfl; exact rfl; first | exact f0 (by with_reducible assumption) | exact f1 (by with_reducible assumption) | exact f2 (by with_reducible assumption) | exact f3 (by with_reducible assumption) | with_reducible assumption | exact g22 (by with_reducible assumption) | exact g25 (by with_reducible assumption)) | ((with_reducible apply wl_rowG); exact rfl; exact rfl; first | with_reducible assumption | exact RowK.now (by with_reducible assumption) | exact f4 (by with_reducible assumption)))
        (with_reducible refine wl_k ?_ ?_); exact rfl; intro K hK; go_simp; refine hK _ ?_; clear hK K
        (with_reducible refine wl_k ?_ ?_); exact rfl; intro K hK; go_simp; refine hK _ ?_; clear hK K
        (with_reducible refine wl_k ?_ ?_); exact rfl; intro K hK; go_simp; refine hK _ ?_; clear hK K
        (first | ((with_reducible apply wl_oneG); exact rfl; exact rfl; first | exact f0 (by with_reducible assumption) | exact f1 (by with_reducible assumption) | exact f2 (by with_reducible assumption) | exact f3 (by with_reducible assumption) | with_reducible assumption | exact g22 (by with_reducible assumption) | exact g25 (by with_reducible assumption)) | ((with_reducible apply wl_rowG); exact rfl; exact rfl; first | with_reducible assumption | exact RowK.now (by with_reducible assumption) | exact f4 (by with_reducible assumption)))
        (with_reducible refine wl_k ?_ ?_); exact rfl; intro K hK; go_simp; refine hK _ ?_; clear hK K
        (first | ((with_reducible apply wl_oneG); exact rfl; exact rfl; first | exact f0 (by with_reducible assumption) | exact f1 (by with_reducible assumption) | exact f2 (by with_reducible assumption) | exact f3 (by with_reducible assumption) | with_reducible assumption | exact g22 (by with_reducible assumption) | exact g25 (by with_reducible assumption)) | ((with_reducible apply wl_rowG); exact rfl; exact rfl; first | with_reducible assumption | exact RowK.now (by with_reducible assumption) | exact f4 (by with_reducible assumption)))
        (with_reducible refine wl_k ?_ ?_); exact rfl; intro K hK; go_simp; refine hK _ ?_; clear hK K
        (with_reducible refine wl_k ?_ ?_); exact rfl; intro K hK; go_simp; refine hK _ ?_; clear hK K
        (with_reducible refine wl_k ?_ ?_); exact rfl; intro K hK; go_simp; refine hK _ ?_; clear hK K
        (with_reducible refine wl_k ?_ ?_); exact rfl; intro K hK; go_simp; refine hK _ ?_; clear hK K
        (first | ((with_reducible apply wl_oneG); exact rfl; exact rfl; first | exact f0 (by with_reducible assumption) | exact f1 (by with_reducible assumption) | exact f2 (by with_reducible assumption) | exact f3 (by with_reducible assumption) | with_reducible assumption | exact g22 (by with_reducible assumption) | exact g25 (by with_reducible assumption)) | ((with_reducible apply wl_rowG); exact rfl; exact rfl; first | with_reducible assumption | exact RowK.now (by with_reducible assumption) | exact f4 (by with_reducible assumption)))
        (with_reducible refine wl_k ?_ ?_); exact rfl; intro K hK; go_simp; refine hK _ ?_; clear hK K
        (first | ((with_reducible apply wl_oneG); exact rfl; exact rfl; first | exact f0 (by with_reducible assumption) | exact f1 (by with_reducible assumption) | exact f2 (by with_reducible assumption) | exact f3 (by with_reducible assumption) | with_reducible assumption | exact g22 (by with_reducible assumption) | exact g25 (by with_reducible assumption)) | ((with_reducible apply wl_rowG); exact rfl; exact rfl; first | with_reducible assumption | exact RowK.now (by with_reducible assumption) | exact f4 (by with_reducible assumption)))
        (with_reducible refine wl_k ?_ ?_); exact rfl; intro K hK; go_simp; refine hK _ ?_; clear hK K
        (with_reducible refine wl_k ?_ ?_); exact rfl; intro K hK; go_simp; refine hK _ ?_; clear hK K
        (with_reducible refine wl_k ?_ ?_); exact rfl; intro K hK; go_simp; refine hK _ ?_; clear hK K
        (first | ((with_reducible refine wl_skipU ?_ ?_ ?_); exact rfl; exact rfl) | ((with_reducible refine wl_skip ?_ ?_); exact rfl; simp only [put_lit, List.set_cons_zero, List.set_cons_succ]))
        (first | ((with_reducible refine wl_skipU ?_ ?_ ?_); exact rfl; exact rfl) | ((with_reducible refine wl_skip ?_ ?_); exact rfl; simp only [put_lit, List.set_cons_zero, List.set_cons_succ]))
        (first | ((with_reducible refine wl_skipU ?_ ?_ ?_); exact rfl; exact rfl) | ((with_reducible refine wl_skip ?_ ?_); exact rfl; simp only [put_lit, List.set_cons_zero, List.set_cons_succ]))
        (first | ((with_reducible refine wl_skipU ?_ ?_ ?_); exact rfl; exact rfl) | ((with_reducible refine wl_skip ?_ ?_); exact rfl; simp only [put_lit, List.set_cons_zero, List.set_cons_succ]))
        (first | ((with_reducible refine wl_skipU ?_ ?_ ?_); exact rfl; exact rfl) | ((with_reducible refine wl_skip ?_ ?_); exact rfl; simp only [put_lit, List.set_cons_zero, List.set_cons_succ]))
        (with_reducible refine wl_k ?_ ?_); exact rfl; intro K hK; go_simp; refine hK _ ?_; clear hK K
        (with_reducible refine wl_k ?_ ?_); exact rfl; intro K hK; go_simp; refine hK _ ?_; clear hK K
        go_wp2_with fail
        go_ret
        exact ⟨rfl, hb⟩
    · have e2 : (s.toList == s'.toList) = false := beq_eq_false_iff_ne.2 (fun e => h2 (bytes_inj e))
      obtain rfl : B = false := by rw [HB.out]; simp [eqTy, h2]
      clear h1 h2
      go_upto_region 1 with (fail)
      apply wp_region_lit
      (with_reducible refine wl_k ?_ ?_); exact rfl; intro K hK; go_simp; refine hK _ ?_; clear hK K
      (first | ((with_reducible apply wl_oneG); exact rfl; exact rfl; first | exact f0 (by with_reducible assumption) | exact f1 (by with_reducible assumption) | exact f2 (by with_reducible assumption) | exact f3 (by with_reducible assumption) | with_reducible assumption | exact g22 (by with_reducible assumption) | exact g25 (by with_reducible assumption)) | ((with_reducible apply wl_rowG); exact rfl; exact rfl; first | with_reducible assumption | exact RowK.now (by with_reducible assumption) | exact f4 (by with_reducible assumption)))
      (with_reducible refine wl_k ?_ ?_); exact rfl; intro K hK; go_simp; refine hK _ ?_; clear hK K
      (first | ((with_reducible apply wl_oneG); exact rfl; exact rfl; first | exact f0 (by with_reducible assumption) | exact f1 (by with_reducible assumption) | exact f2 (by with_reducible assumption) | exact f3 (by with_reducible assumption) | with_reducible assumption | exact g22 (by with_reducible assumption) | exact g25 (by with_reducible assumption)) | ((with_reducible apply wl_rowG); exact rfl; exact rfl; first | with_reducible assumption | exact RowK.now (by with_reducible assumption) | exact f4 (by with_reducible assumption)))
      (with_reducible refine wl_k ?_ ?_); exact rfl; intro K hK; go_simp; refine hK _ ?_; clear hK K
      (with_reducible refine wl_k ?_ ?_); exact rfl; intro K hK; go_simp; refine hK _ ?_; clear hK K
      (with_reducible refine wl_k ?_ ?_); exact rfl; intro K hK; go_simp; refine hK _ ?_; clear hK K
      (first | ((with_reducible apply wl_oneG); exact rfl; exact rfl; first | exact f0 (by with_reducible assumption) | exact f1 (by with_reducible assumption) | exact f2 (by with_reducible assumption) | exact f3 (by with_reducible assumption) | with_reducible assumption | exact g22 (by with_reducible assumption) | exact g25 (by with_reducible assumption)) | ((with_reducible apply wl_rowG); exact rfl; exact rfl; first | with_reducible assumption | exact RowK.now (by with_reducible assumption) | exact f4 (by with_reducible assumption)))
      (with_reducible refine wl_k ?_ ?_); exact rfl; intro K hK; go_simp; refine hK _ ?_; clear hK K
      (first | ((with_reducible apply wl_oneG); exact rfl; exact rfl; first | exact f0 (by with_reducible assumption) | exact f1 (by with_reducible assumption) | exact f2 (by with_reducible assumption) | exact f3 (by with_reducible assumption) | with_reducible assumption | exact g22 (by with_reducible assumption) | exact g25 (by with_reducible assumption)) | ((with_reducible apply wl_rowG); exact rfl; exact rfl; first | with_reducible assumption | exact RowK.now (by with_reducible assumption) | exact f4 (by with_reducible assumption)))
      (with_reducible refine wl_k ?_ ?_); exact rfl; intro K hK; go_simp; refine hK _ ?_; clear hK K
      (with_reducible refine wl_k ?_ ?_); exact rfl; intro K hK; go_simp; refine hK _ ?_; clear hK K
      (with_reducible refine wl_k ?_ ?_); exact rfl; intro K hK; go_simp; refine hK _ ?_; clear hK K
      (first | ((with_reducible refine wl_skipU ?_ ?_ ?_); exact rfl; exact rfl) | ((with_reducible refine wl_skip ?_ ?_); exact rfl; simp only [put_lit, List.set_cons_zero, List.set_cons_succ]))
      (first | ((with_reducible refine wl_skipU ?_ ?_ ?_); exact rfl; exact rfl) | ((with_reducible refine wl_skip ?_ ?_); exact rfl; simp only [put_lit, List.set_cons_zero, List.set_cons_succ]))
      (first | ((with_reducible refine wl_skipU ?_ ?_ ?_); exact rfl; exact rfl) | ((with_reducible refine wl_skip ?_ ?_); exact rfl; simp only [put_lit, List.set_cons_zero, List.set_cons_succ]))
      (first | ((with_reducible refine wl_skipU ?_ ?_ ?_); exact rfl; exact rfl) | ((with_reducible refine wl_skip ?_ ?_); exact rfl; simp only [put_lit, List.set_cons_zero, List.set_cons_succ]))
      (first | ((with_reducible refine wl_skipU ?_ ?_ ?_); exact rfl; exact rfl) | ((with_reducible refine wl_skip ?_ ?_); exact rfl; simp only [put_lit, List.set_cons_zero, List.set_cons_succ]))
      (with_reducible refine wl_k ?_ ?_); exact rfl; intro K hK; go_simp; refine hK _ ?_; clear hK K
      (with_reducible refine wl_k ?_ ?_); exact rfl; intro K hK; go_simp; refine hK _ ?_; clear hK K
      (first | ((with_reducible refine wl_skipU ?_ ?_ ?_); exact rfl; exact rfl) | ((with_reducible refine wl_skip ?_ ?_); exact rfl; simp only [put_lit, List.set_cons_zero, List.set_cons_succ]))
      (first | ((with_reducible refine wl_skipU ?_ ?_ ?_); exact rfl; exact rfl) | ((with_reducible refine wl_skip ?_ ?_); exact rfl; simp only [put_lit, List.set_cons_zero, List.set_cons_succ]))
      (first | ((with_reducible refine wl_skipU ?_ ?_ ?_); exact rfl; exact rfl) | ((with_reducible refine wl_skip ?_ ?_); exact rfl; simp only [put_lit, List.set_cons_zero, List.set_cons_succ]))
      (first | ((with_reducible refine wl_skipU ?_ ?_ ?_); exact rfl; exact rfl) | ((with_reducible refine wl_skip ?_ ?_); exact rfl; simp only [put_lit, List.set_cons_zero, List.set_cons_succ]))
      (first | ((with_reducible refine wl_skipU ?_ ?_ ?_); exact rfl; exact rfl) | ((with_reducible refine wl_skip ?_ ?_); exact rfl; simp only [put_lit, List.set_cons_zero, List.set_cons_succ]))
      (with_reducible refine wl_k ?_ ?_); exact rfl; intro K hK; go_simp; refine hK _ ?_; clear hK K
      (with_reducible refine wl_k ?_ ?_); exact rfl; intro K hK; go_simp; refine hK _ ?_; clear hK K
      go_wp2_with fail
      go_ret
      exact ⟨rfl, hb⟩
  · have e1 : (k == k') = false := beq_eq_false_iff_ne.2 h1
    obtain rfl : B = false := by rw [HB.out]; simp [eqTy, h1]
    clear h1
    go_upto_region 1 with (fail)
    apply wp_region_lit
    (with_reducible refine wl_k ?_ ?_); exact rfl; intro K hK; go_simp; refine hK _ ?_; clear hK K
    (first | ((with_reducible apply wl_oneG); exact rfl; exact rfl; first | exact f0 (by with_reducible assumption) | exact f1 (by with_reducible assumption) | exact f2 (by with_reducible assumption) | exact f3 (by with_reducible assumption) | with_reducible assumption | exact g22 (by with_reducible assumption) | exact g25 (by with_reducible assumption)) | ((with_reducible apply wl_rowG); exact rfl; exact rfl; first | with_reducible assumption | exact RowK.now (by with_reducible assumption) | exact f4 (by with_reducible assumption)))
    (with_reducible refine wl_k ?_ ?_); exact rfl; intro K hK; go_simp; refine hK _ ?_; clear hK K
    (first | ((with_reducible apply wl_oneG); exact rfl; exact rfl; first | exact f0 (by with_reducible assumption) | exact f1 (by with_reducible assumption) | exact f2 (by with_reducible assumption) | exact f3 (by with_reducible assumption) | with_reducible assumption | exact g22 (by with_reducible assumption) | exact g25 (by with_reducible assumption)) | ((with_reducible apply wl_rowG); exact rfl; exact rfl; first | with_reducible assumption | exact RowK.now (by with_reducible assumption) | exact f4 (by with_reducible assumption)))
    (with_reducible refine wl_k ?_ ?_); exact rfl; intro K hK; go_simp; refine hK _ ?_; clear hK K
    (with_reducible refine wl_k ?_ ?_); exact rfl; intro K hK; go_simp; refine hK _ ?_; clear hK K
    (first | ((with_reducible refine wl_skipU ?_ ?_ ?_); exact rfl; exact rfl) | ((with_reducible refine wl_skip ?_ ?_); exact rfl; simp only [put_lit, List.set_cons_zero, List.set_cons_succ]))
    (first | ((with_reducible refine wl_skipU ?_ ?_ ?_); exact rfl; exact rfl) | ((with_reducible refine wl_skip ?_ ?_); exact rfl; simp only [put_lit, List.set_cons_zero, List.set_cons_succ]))
    (first | ((with_reducible refine wl_skipU ?_ ?_ ?_); exact rfl; exact rfl) | ((with_reducible refine wl_skip ?_ ?_); exact rfl; simp only [put_lit, List.set_cons_zero, List.set_cons_succ]))
    (first | ((with_reducible refine wl_skipU ?_ ?_ ?_); exact rfl; exact rfl) | ((with_reducible refine wl_skip ?_ ?_); exact rfl; simp only [put_lit, List.set_cons_zero, List.set_cons_succ]))
    (first | ((with_reducible refine wl_skipU ?_ ?_ ?_); exact rfl; exact rfl) | ((with_reducible refine wl_skip ?_ ?_); exact rfl; simp only [put_lit, List.set_cons_zero, List.set_cons_succ]))
    (with_reducible refine wl_k ?_ ?_); exact rfl; intro K hK; go_simp; refine hK _ ?_; clear hK K
    (with_reducible refine wl_k ?_ ?_); exact rfl; intro K hK; go_simp; refine hK _ ?_; clear hK K
    (first | ((with_reducible refine wl_skipU ?_ ?_ ?_); exact rfl; exact rfl) | ((with_reducible refine wl_skip ?_ ?_); exact rfl; simp only [put_lit, List.set_cons_zero, List.set_cons_succ]))
    (first | ((with_reducible refine wl_skipU ?_ ?_ ?_); exact rfl; exact rfl) | ((with_reducible refine wl_skip ?_ ?_); exact rfl; simp only [put_lit, List.set_cons_zero, List.set_cons_succ]))
    (first | ((with_reducible refine wl_skipU ?_ ?_ ?_); exact rfl; exact rfl) | ((with_reducible refine wl_skip ?_ ?_); exact rfl; simp only [put_lit, List.set_cons_zero, List.set_cons_succ]))
    (first | ((with_reducible refine wl_skipU ?_ ?_ ?_); exact rfl; exact rfl) | ((with_reducible refine wl_skip ?_ ?_); exact rfl; simp only [put_lit, List.set_cons_zero, List.set_cons_succ]))
    (first | ((with_reducible refine wl_skipU ?_ ?_ ?_); exact rfl; exact rfl) | ((with_reducible refine wl_skip ?_ ?_); exact rfl; simp only [put_lit, List.set_cons_zero, List.set_cons_succ]))
    (with_reducible refine wl_k ?_ ?_); exact rfl; intro K hK; go_simp; refine hK _ ?_; clear hK K
    (with_reducible refine wl_k ?_ ?_); exact rfl; intro K hK; go_simp; refine hK _ ?_; clear hK K
    (first | ((with_reducible refine wl_skipU ?_ ?_ ?_); exact rfl; exact rfl) | ((with_reducible refine wl_skip ?_ ?_); exact rfl; simp only [put_lit, List.set_cons_zero, List.set_cons_succ]))
    (first | ((with_reducible refine wl_skipU ?_ ?_ ?_); exact rfl; exact rfl) | ((with_reducible refine wl_skip ?_ ?_); exact rfl; simp only [put_lit, List.set_cons_zero, List.set_cons_succ]))
    (first | ((with_reducible refine wl_skipU ?_ ?_ ?_); exact rfl; exact rfl) | ((with_reducible refine wl_skip ?_ ?_); exact rfl; simp only [put_lit, List.set_cons_zero, List.set_cons_succ]))
    (first | ((with_reducible refine wl_skipU ?_ ?_ ?_); exact rfl; exact rfl) | ((with_reducible refine wl_skip ?_ ?_); exact rfl; simp only [put_lit, List.set_cons_zero, List.set_cons_succ]))
    (first | ((with_reducible refine wl_skipU ?_ ?_ ?_); exact rfl; exact rfl) | ((with_reducible refine wl_skip ?_ ?_); exact rfl; simp only [put_lit, List.set_cons_zero, List.set_cons_succ]))
    (with_reducible refine wl_k ?_ ?_); exact rfl; intro K hK; go_simp; refine hK _ ?_; clear hK K
    (with_reducible refine wl_k ?_ ?_); exact rfl; intro K hK; go_simp; refine hK _ ?_; clear hK K
    go_wp2_with fail
    go_ret
    exact ⟨rfl, hb⟩
end Go.Proofs.YtokmaehefenpmaaDoor
namespace Go.Proofs.YtokmaehefenpmaaDoor
open Go.RowKit Go.Proofs.YtokmaehefenpmaaDoor.Nm
set_option linter.unusedSimpArgs false
/-- A row of names at a slice. -/
structure TxAt (w : World) (ns : List ByteArray) (A : Option Addr) (l c : Nat) : Prop where
  len : ns.length = l
  cap : l ≤ c
  max : c ≤ maxLen
  el : ∀ (i : Nat) (s : ByteArray), ns[i]? = some s → ∃ b off, A = some ⟨b, off, none⟩ ∧ w.cell? ⟨b, off + i, none⟩ = some (.string s)
theorem cell_lt' {w : World} {a : Addr} {v : Value} (h : w.cell? a = some v) : a.block < w.heap.size := by
  apply Classical.byContradiction
  intro hn
  simp [World.cell?, Array.getElem?_eq_none (Nat.le_of_not_lt hn)] at h
theorem TxAt.old {w w' : World} {ns : List ByteArray} {A : Option Addr} {l c : Nat} (h : TxAt w ns A l c) (hb : Below w.heap.size w w') : TxAt w' ns A l c :=
  ⟨h.len, h.cap, h.max, fun i s hi => by
    obtain ⟨b, off, e, hc⟩ := h.el i s hi
    exact ⟨b, off, e, by rw [hb.cell (cell_lt' hc)]; exact hc⟩⟩
theorem TxAt.addr {w : World} {ns : List ByteArray} {A : Option Addr} {l c : Nat} (h : TxAt w ns A l c) {i : Nat} (hi : i < l) : ∃ b off s, A = some ⟨b, off, none⟩ ∧ ns[i]? = some s := by
  have hs : ns[i]? = some (ns[i]'(by rw [h.len]; exact hi)) := List.getElem?_eq_getElem _
  obtain ⟨b, off, e, _⟩ := h.el i _ hs
  exact ⟨b, off, _, e, hs⟩
theorem TxAt.one {w : World} {ns : List ByteArray} {b off : Nat} {l c : Nat} (h : TxAt w ns (some ⟨b, off, none⟩) l c) {i : Nat} {s : ByteArray} (hi : ns[i]? = some s) : OneAt w 9 ⟨b, off + i, none⟩ (.string s) := by
  obtain ⟨b', off', e, hc⟩ := h.el i s hi
  cases e
  exact one_of u9 rfl hc
def idxI (ns : List ByteArray) (s : ByteArray) : Int := match idx ns s with | some i => (i : Int) | none => -1
theorem idx_some {ns : List ByteArray} {s : ByteArray} {j : Nat} (h : ∀ i, i < j → ns[i]? ≠ some s) (hj : ns[j]? = some s) : idx ns s = some j := by
  unfold idx
  rw [List.findIdx?_eq_some_iff_getElem]
  have hl := (List.getElem?_eq_some_iff.1 hj).1
  refine ⟨hl, ?_, fun i hi => ?_⟩
  · rw [List.getElem?_eq_getElem hl] at hj; simpa using hj
  · have := h i hi
    rw [List.getElem?_eq_getElem (by omega)] at this
    simpa using this
theorem idx_none {ns : List ByteArray} {s : ByteArray} (h : ∀ i, i < ns.length → ns[i]? ≠ some s) : idx ns s = none := by
  unfold idx
  rw [List.findIdx?_eq_none_iff]
  intro x hx
  obtain ⟨i, hi⟩ := List.mem_iff_getElem?.1 hx
  have := h i (List.getElem?_eq_some_iff.1 hi).1
  rw [hi] at this
  simpa using this
set_option maxHeartbeats 2000000 in
set_option maxRecDepth 100000 in
theorem Index_any (ns : List ByteArray) (s : ByteArray) (A : Option Addr) (l c : Nat) (w : World) (h : TxAt w ns A l c) : Calls Tryd.prog 50 #[.slice A l c, .string s] w fun e w' => e = .returned (.int .i64 (idxI ns s)) ∧ Below w.heap.size w w' := by
  have HT := Lib.hid h
  have HL := Lib.hid h.len
  have hcm := h.cap
  have hmx := h.max
  unfold maxLen at hmx
  clear h
  have hb := Below.refl w.heap.size w
  go_enter Tryd.func50, Tryd.ntmps50
  go_wp2_with fail
  go_loopw [8] (fun i wr => ∃ j : Nat, j ≤ l ∧ i = .int .i64 (j : Int) ∧ Hid (∀ i, i < j → ns[i]? ≠ some s) ∧ Below w.heap.size w wr) (fun i _ => l - (intOf i).toNat)
  case atStart => exact ⟨0, by omega, rfl, Lib.hid (fun i hi => by omega), hb⟩
  case round =>
    clear hb
    obtain ⟨j, hj, rfl, HR, hb⟩ := hrel
    by_cases hlt : j < l
    · have hltI : (j : Int) < (l : Int) := by omega
      obtain ⟨b, off, x, rfl, hx⟩ := HT.out.addr hlt
      have hone := (HT.out.old hb).one hx
      by_cases he : s = x
      · have e1 : (s.toList == x.toList) = true := beq_iff_eq.2 (by rw [he])
        have HF : Hid (idxI ns s = (j : Int)) := Lib.hid (by unfold idxI; rw [idx_some HR.out (by rw [hx, he])])
        clear he hx HR
        go_upto_region 4 with (fail)
        apply wp_region_lit
        (with_reducible refine wl_k ?_ ?_); exact rfl; intro K hK; go_simp; refine hK _ ?_; clear hK K
        (with_reducible refine wl_k ?_ ?_); exact rfl; intro K hK; go_simp; refine hK _ ?_; clear hK K
        (with_reducible refine wl_k ?_ ?_); exact rfl; intro K hK; go_simp; refine hK _ ?_; clear hK K
        (with_reducible refine wl_k ?_ ?_); exact rfl; intro K hK; go_simp; refine hK _ ?_; clear hK K
        (first | ((with_reducible apply wl_oneG); exact rfl; exact rfl; first | exact f0 (by with_reducible assumption) | exact f1 (by with_reducible assumption) | exact f2 (by with_reducible assumption) | exact f3 (by with_reducible assumption) | with_reducible assumption | exact g22 (by with_reducible assumption) | exact g25 (by with_reducible assumption)) | ((with_reducible apply wl_rowG); exact rfl; exact rfl; first | with_reducible assumption | exact RowK.now (by with_reducible assumption) | exact f4 (by with_reducible assumption)))
        (with_reducible refine wl_k ?_ ?_); exact rfl; intro K hK; go_simp; refine hK _ ?_; clear hK K
        clear hone
        go_wp2_with fail
        go_ret
        exact ⟨ret_int HF.out.symm, hb⟩
      · have e1 : (s.toList == x.toList) = false := beq_eq_false_iff_ne.2 (fun e => he (bytes_inj e))
        have HR2 : Hid (∀ i, i < j + 1 → ns[i]? ≠ some s) := Lib.hid (fun i hi => by
          by_cases e : i = j
          · subst e; rw [hx]; simp; exact fun e => he e.symm
          · exact HR.out i (by omega))
        clear he hx HR
        go_upto_region 4 with (fail)
        apply wp_region_lit
        (with_reducible refine wl_k ?_ ?_); exact rfl; intro K hK; go_simp; refine hK _ ?_; clear hK K
        (with_reducible refine wl_k ?_ ?_); exact rfl; intro K hK; go_simp; refine hK _ ?_; clear hK K
        (with_reducible refine wl_k ?_ ?_); exact rfl; intro K hK; go_simp; refine hK _ ?_; clear hK K
        (with_reducible refine wl_k ?_ ?_); exact rfl; intro K hK; go_simp; refine hK _ ?_; clear hK K
        (first | ((with_reducible apply wl_oneG); exact rfl; exact rfl; first | exact f0 (by with_reducible assumption) | exact f1 (by with_reducible assumption) | exact f2 (by with_reducible assumption) | exact f3 (by with_reducible assumption) | with_reducible assumption | exact g22 (by with_reducible assumption) | exact g25 (by with_reducible assumption)) | ((with_reducible apply wl_rowG); exact rfl; exact rfl; first | with_reducible assumption | exact RowK.now (by with_reducible assumption) | exact f4 (by with_reducible assumption)))
        (with_reducible refine wl_k ?_ ?_); exact rfl; intro K hK; go_simp; refine hK _ ?_; clear hK K
        clear hone
        go_wp2_with fail
        go_roundw
        case rel => exact ⟨j + 1, by omega, by go_num, HR2, hb⟩
        case measure => simp [intOf]; omega
    · have hltI : ¬ (j : Int) < (l : Int) := by omega
      have HF : Hid (idxI ns s = -1) := Lib.hid (by unfold idxI; rw [idx_none (fun i hi => HR.out i (by rw [HL.out] at hi; omega))])
      go_wp2_with fail
      go_ret
      exact ⟨ret_int HF.out.symm, hb⟩
end Go.Proofs.YtokmaehefenpmaaDoor
namespace Go.Proofs.YtokmaehefenpmaaDoor
open Go.RowKit Go.Proofs.YtokmaehefenpmaaDoor.Nm
set_option linter.unusedSimpArgs false
def letterB (c : Int) : Bool := decide ((97 ≤ c ∧ c ≤ 122) ∨ (65 ≤ c ∧ c ≤ 90) ∨ c = 95)
def digitB (c : Int) : Bool := decide (48 ≤ c ∧ c ≤ 57)
def capB (c : Int) : Bool := decide (65 ≤ c ∧ c ≤ 90)
set_option maxHeartbeats 2000000 in
set_option maxRecDepth 100000 in
theorem Letter_any (c : Int) (w : World) : Calls Tryd.prog 113 #[.int .u8 c] w fun e w' => e = .returned (.bool (letterB c)) ∧ w = w' := by
  go_enter Tryd.func113, Tryd.ntmps113
  by_cases h5 : c = 95
  · subst h5
    go_wp2_with fail
    go_ret
    exact ⟨rfl, rfl⟩
  have e1 : (c == 95) = false := by simp [h5]
  have HH := Lib.hid h5
  clear h5
  by_cases h1 : c ≥ 97
  · skip
    by_cases h2 : c ≤ 122
    · skip
      go_wp2_with fail
      go_ret
      have := HH.out
      exact ⟨by rw [show letterB c = true from decide_eq_true (by omega)]; rfl, rfl⟩
    · skip
      by_cases h3 : c ≥ 65
      · skip
        by_cases h4 : c ≤ 90
        · skip
          go_wp2_with fail
          go_ret
          have := HH.out
          exact ⟨by rw [show letterB c = true from decide_eq_true (by omega)]; rfl, rfl⟩
        · skip
          go_wp2_with fail
          go_ret
          have := HH.out
          exact ⟨by rw [show letterB c = false from decide_eq_false (by omega)]; first | rfl | (rw [← e1]; rfl), rfl⟩
      · skip
        go_wp2_with fail
        go_ret
        have := HH.out
        exact ⟨by rw [show letterB c = false from decide_eq_false (by omega)]; first | rfl | (rw [← e1]; rfl), rfl⟩
  · skip
    by_cases h3 : c ≥ 65
    · skip
      by_cases h4 : c ≤ 90
      · skip
        go_wp2_with fail
        go_ret
        have := HH.out
        exact ⟨by rw [show letterB c = true from decide_eq_true (by omega)]; rfl, rfl⟩
      · skip
        go_wp2_with fail
        go_ret
        have := HH.out
        exact ⟨by rw [show letterB c = false from decide_eq_false (by omega)]; first | rfl | (rw [← e1]; rfl), rfl⟩
    · skip
      go_wp2_with fail
      go_ret
      have := HH.out
      exact ⟨by rw [show letterB c = false from decide_eq_false (by omega)]; first | rfl | (rw [← e1]; rfl), rfl⟩
set_option maxHeartbeats 2000000 in
set_option maxRecDepth 100000 in
theorem Digit_any (c : Int) (w : World) : Calls Tryd.prog 114 #[.int .u8 c] w fun e w' => e = .returned (.bool (digitB c)) ∧ w = w' := by
  go_enter Tryd.func114, Tryd.ntmps114
  by_cases h1 : c ≥ 48
  · skip
    by_cases h2 : c ≤ 57
    · skip
      go_wp2_with fail
      go_ret
      exact ⟨by rw [show digitB c = true from decide_eq_true (by omega)]; rfl, rfl⟩
    · skip
      go_wp2_with fail
      go_ret
      exact ⟨by rw [show digitB c = false from decide_eq_false (by omega)]; rfl, rfl⟩
  · skip
    go_wp2_with fail
    go_ret
    exact ⟨by rw [show digitB c = false from decide_eq_false (by omega)]; rfl, rfl⟩
set_option maxHeartbeats 2000000 in
set_option maxRecDepth 100000 in
theorem Capital_any (c : Int) (w : World) : Calls Tryd.prog 134 #[.int .u8 c] w fun e w' => e = .returned (.bool (capB c)) ∧ w = w' := by
  go_enter Tryd.func134, Tryd.ntmps134
  by_cases h1 : c ≥ 65
  · skip
    by_cases h2 : c ≤ 90
    · skip
      go_wp2_with fail
      go_ret
      exact ⟨by rw [show capB c = true from decide_eq_true (by omega)]; rfl, rfl⟩
    · skip
      go_wp2_with fail
      go_ret
      exact ⟨by rw [show capB c = false from decide_eq_false (by omega)]; rfl, rfl⟩
  · skip
    go_wp2_with fail
    go_ret
    exact ⟨by rw [show capB c = false from decide_eq_false (by omega)]; rfl, rfl⟩
/-- What a name of a type is. -/
def tnameB (s : ByteArray) : Bool := decide (s.size ≤ 24) && match s.data.toList with
  | [] => false
  | a :: l => capB (a.toNat : Int) && (a :: l).all fun c => letterB (c.toNat : Int) || digitB (c.toNat : Int)
theorem tname_empty {s : ByteArray} (h : s.toList.isEmpty = true) : tnameB s = false := by
  unfold tnameB
  rw [show s.data.toList = [] by rw [← ByteArray.toList_eq]; simpa using h]
  simp
theorem bytes_get {s : ByteArray} {j : Nat} (h : j < s.size) : s.data.toList[j]? = some s[j] := by
  rw [List.getElem?_eq_getElem (by simpa using h)]; rfl
theorem bytes_size (s : ByteArray) : s.data.toList.length = s.size := rfl
theorem tname_cons {s : ByteArray} (h : 0 < s.size) : tnameB s = (decide (s.size ≤ 24) && (capB (s[0].toNat : Int) && s.data.toList.all fun c => letterB (c.toNat : Int) || digitB (c.toNat : Int))) := by
  have h0 := bytes_get h
  unfold tnameB
  cases hl : s.data.toList with
  | nil => rw [hl] at h0; simp at h0
  | cons a l => rw [hl] at h0; simp at h0; subst h0; rfl
set_option maxHeartbeats 2000000 in
set_option maxRecDepth 100000 in
theorem TypeName_any (s : ByteArray) (hs : s.size ≤ maxLen) (w : World) : Calls Tryd.prog 115 #[.string s] w fun e w' => e = .returned (.bool (tnameB s)) ∧ w = w' := by
  unfold maxLen at hs
  go_enter Tryd.func115, Tryd.ntmps115
  go_upto_region 1 with (fail)
  apply wp_region_lit
  cases he : s.toList.isEmpty with
  | true =>
    have HT := Lib.hid (tname_empty he)
    (with_reducible refine wl_k ?_ ?_); exact rfl; intro K hK; go_simp; refine hK _ ?_; clear hK K
    (with_reducible refine wl_k ?_ ?_); exact rfl; intro K hK; go_simp; refine hK _ ?_; clear hK K
    (with_reducible refine wl_k ?_ ?_); exact rfl; intro K hK; go_simp; refine hK _ ?_; clear hK K
    (first | ((with_reducible refine wl_skipU ?_ ?_ ?_); exact rfl; exact rfl) | ((with_reducible refine wl_skip ?_ ?_); exact rfl; simp only [put_lit, List.set_cons_zero, List.set_cons_succ]))
    (first | ((with_reducible refine wl_skipU ?_ ?_ ?_); exact rfl; exact rfl) | ((with_reducible refine wl_skip ?_ ?_); exact rfl; simp only [put_lit, List.set_cons_zero, List.set_cons_succ]))
    (first | ((with_reducible refine wl_skipU ?_ ?_ ?_); exact rfl; exact rfl) | ((with_reducible refine wl_skip ?_ ?_); exact rfl; simp only [put_lit, List.set_cons_zero, List.set_cons_succ]))
    (with_reducible refine wl_k ?_ ?_); exact rfl; intro K hK; go_simp; refine hK _ ?_; clear hK K
    (with_reducible refine wl_k ?_ ?_); exact rfl; intro K hK; go_simp; refine hK _ ?_; clear hK K
    (first | ((with_reducible refine wl_skipU ?_ ?_ ?_); exact rfl; exact rfl) | ((with_reducible refine wl_skip ?_ ?_); exact rfl; simp only [put_lit, List.set_cons_zero, List.set_cons_succ]))
    (first | ((with_reducible refine wl_skipU ?_ ?_ ?_); exact rfl; exact rfl) | ((with_reducible refine wl_skip ?_ ?_); exact rfl; simp only [put_lit, List.set_cons_zero, List.set_cons_succ]))
    (first | ((with_reducible refine wl_skipU ?_ ?_ ?_); exact rfl; exact rfl) | ((with_reducible refine wl_skip ?_ ?_); exact rfl; simp only [put_lit, List.set_cons_zero, List.set_cons_succ]))
    (first | ((with_reducible refine wl_skipU ?_ ?_ ?_); exact rfl; exact rfl) | ((with_reducible refine wl_skip ?_ ?_); exact rfl; simp only [put_lit, List.set_cons_zero, List.set_cons_succ]))
    (with_reducible refine wl_k ?_ ?_); exact rfl; intro K hK; go_simp; refine hK _ ?_; clear hK K
    go_wp2_with fail
    go_ret
    exact ⟨by rw [HT.out]; rfl, rfl⟩
  | false =>
    have hix : 0 < s.size := by
      rcases Nat.eq_zero_or_pos s.size with h | h
      · have : s.toList = [] := by rw [ByteArray.toList_eq]; exact List.eq_nil_of_length_eq_zero h
        rw [this] at he; cases he
      · exact h
    have HTC := Lib.hid (tname_cons hix)
    by_cases h24 : (s.size : Int) > 24
    · have HT : Hid (tnameB s = false) := Lib.hid (by rw [HTC.out, decide_eq_false (by omega)]; rfl)
      (with_reducible refine wl_k ?_ ?_); exact rfl; intro K hK; go_simp; refine hK _ ?_; clear hK K
      (with_reducible refine wl_k ?_ ?_); exact rfl; intro K hK; go_simp; refine hK _ ?_; clear hK K
      (with_reducible refine wl_k ?_ ?_); exact rfl; intro K hK; go_simp; refine hK _ ?_; clear hK K
      (with_reducible refine wl_k ?_ ?_); exact rfl; intro K hK; go_simp; refine hK _ ?_; clear hK K
      (with_reducible refine wl_k ?_ ?_); exact rfl; intro K hK; go_simp; refine hK _ ?_; clear hK K
      (with_reducible refine wl_k ?_ ?_); exact rfl; intro K hK; go_simp; refine hK _ ?_; clear hK K
      (with_reducible refine wl_k ?_ ?_); exact rfl; intro K hK; go_simp; refine hK _ ?_; clear hK K
      (with_reducible refine wl_k ?_ ?_); exact rfl; intro K hK; go_simp; refine hK _ ?_; clear hK K
      (first | ((with_reducible refine wl_skipU ?_ ?_ ?_); exact rfl; exact rfl) | ((with_reducible refine wl_skip ?_ ?_); exact rfl; simp only [put_lit, List.set_cons_zero, List.set_cons_succ]))
      (first | ((with_reducible refine wl_skipU ?_ ?_ ?_); exact rfl; exact rfl) | ((with_reducible refine wl_skip ?_ ?_); exact rfl; simp only [put_lit, List.set_cons_zero, List.set_cons_succ]))
      (first | ((with_reducible refine wl_skipU ?_ ?_ ?_); exact rfl; exact rfl) | ((with_reducible refine wl_skip ?_ ?_); exact rfl; simp only [put_lit, List.set_cons_zero, List.set_cons_succ]))
      (first | ((with_reducible refine wl_skipU ?_ ?_ ?_); exact rfl; exact rfl) | ((with_reducible refine wl_skip ?_ ?_); exact rfl; simp only [put_lit, List.set_cons_zero, List.set_cons_succ]))
      (with_reducible refine wl_k ?_ ?_); exact rfl; intro K hK; go_simp; refine hK _ ?_; clear hK K
      go_wp2_with fail
      go_ret
      exact ⟨by rw [HT.out]; rfl, rfl⟩
    · have HC := Lib.hid (Capital_any (s[0].toNat : Int) w)
      obtain ⟨b1, hb1⟩ : ∃ b, b = capB (s[0].toNat : Int) := ⟨_, rfl⟩
      rw [← hb1] at HC
      rw [← hb1, decide_eq_true (by omega)] at HTC
      clear hb1
      (with_reducible refine wl_k ?_ ?_); exact rfl; intro K hK; go_simp; refine hK _ ?_; clear hK K
      (with_reducible refine wl_k ?_ ?_); exact rfl; intro K hK; go_simp; refine hK _ ?_; clear hK K
      (with_reducible refine wl_k ?_ ?_); exact rfl; intro K hK; go_simp; refine hK _ ?_; clear hK K
      (with_reducible refine wl_k ?_ ?_); exact rfl; intro K hK; go_simp; refine hK _ ?_; clear hK K
      (with_reducible refine wl_k ?_ ?_); exact rfl; intro K hK; go_simp; refine hK _ ?_; clear hK K
      (with_reducible refine wl_k ?_ ?_); exact rfl; intro K hK; go_simp; refine hK _ ?_; clear hK K
      (with_reducible refine wl_k ?_ ?_); exact rfl; intro K hK; go_simp; refine hK _ ?_; clear hK K
      (with_reducible refine wl_k ?_ ?_); exact rfl; intro K hK; go_simp; refine hK _ ?_; clear hK K
      (with_reducible refine wl_k ?_ ?_); exact rfl; intro K hK; go_simp; refine hK _ ?_; clear hK K
      (with_reducible refine wl_k ?_ ?_); exact rfl; intro K hK; go_simp; refine hK _ ?_; clear hK K
      (with_reducible refine wl_ck ?_ ?_); exact rfl; intro K hK; go_simp; refine ⟨_, _, ⟨rfl, rfl⟩, hK _ _ ⟨_, HC.out, ?_⟩⟩; clear hK K; rintro e w3 ⟨rfl, rfl⟩; refine ⟨_, rfl, ?_⟩; simp only [put_lit, List.set_cons_zero, List.set_cons_succ]
      clear HC
      cases b1 with
      | false =>
        have HT : Hid (tnameB s = false) := Lib.hid (by rw [HTC.out]; rfl)
        (with_reducible refine wl_k ?_ ?_); exact rfl; intro K hK; go_simp; refine hK _ ?_; clear hK K
        (with_reducible refine wl_k ?_ ?_); exact rfl; intro K hK; go_simp; refine hK _ ?_; clear hK K
        go_wp2_with fail
        go_ret
        exact ⟨by rw [HT.out]; rfl, rfl⟩
      | true =>
        have HT : Hid (tnameB s = s.data.toList.all fun c => letterB (c.toNat : Int) || digitB (c.toNat : Int)) := Lib.hid (by rw [HTC.out]; rfl)
        clear HTC
        (with_reducible refine wl_k ?_ ?_); exact rfl; intro K hK; go_simp; refine hK _ ?_; clear hK K
        (with_reducible refine wl_k ?_ ?_); exact rfl; intro K hK; go_simp; refine hK _ ?_; clear hK K
        go_wp2_with fail
        go_loopw [3] (fun i wr => ∃ j : Nat, j ≤ s.size ∧ i = .int .i64 (j : Int) ∧ Hid (∀ (i : Nat) (c : UInt8), i < j → s.data.toList[i]? = some c → (letterB (c.toNat : Int) || digitB (c.toNat : Int)) = true) ∧ w = wr) (fun i _ => s.size - (intOf i).toNat)
        case atStart => exact ⟨0, by omega, rfl, Lib.hid (fun i c hi => by omega), rfl⟩
        case round =>
          obtain ⟨j, hj, rfl, HR, rfl⟩ := hrel
          by_cases hlt : j < s.size
          · have hltI : (j : Int) < (s.size : Int) := by omega
            have HL := Lib.hid (Letter_any (s[j].toNat : Int) w)
            have HD := Lib.hid (Digit_any (s[j].toNat : Int) w)
            have HS := Lib.hid (bytes_get hlt)
            obtain ⟨b1, hb1⟩ : ∃ b, b = letterB (s[j].toNat : Int) := ⟨_, rfl⟩
            obtain ⟨b2, hb2⟩ : ∃ b, b = digitB (s[j].toNat : Int) := ⟨_, rfl⟩
            rw [← hb1] at HL
            rw [← hb2] at HD
            have H1 := Lib.hid hb1
            have H2 := Lib.hid hb2
            have HR2 : Hid ((b1 || b2) = true → ∀ (i : Nat) (c : UInt8), i < j + 1 → s.data.toList[i]? = some c → (letterB (c.toNat : Int) || digitB (c.toNat : Int)) = true) := Lib.hid fun h i c hi hc => by
              rcases Nat.lt_or_ge i j with h3 | h3
              · exact HR.out i c h3 hc
              · obtain rfl : i = j := by omega
                rw [HS.out] at hc; cases hc; rw [← H1.out, ← H2.out]; exact h
            have HF : Hid ((b1 || b2) = false → tnameB s = false) := Lib.hid fun h => by
              rw [HT.out, List.all_eq_false]
              exact ⟨s[j], List.mem_of_getElem? HS.out, by rw [← H1.out, ← H2.out, h]; simp⟩
            clear hb1 hb2 H1 H2 HS
            go_upto_region 6 with (fail)
            apply wp_region_lit
            (with_reducible refine wl_k ?_ ?_); exact rfl; intro K hK; go_simp; refine hK _ ?_; clear hK K
            (with_reducible refine wl_k ?_ ?_); exact rfl; intro K hK; go_simp; refine hK _ ?_; clear hK K
            (with_reducible refine wl_k ?_ ?_); exact rfl; intro K hK; go_simp; refine hK _ ?_; clear hK K
            (with_reducible refine wl_ck ?_ ?_); exact rfl; intro K hK; go_simp; refine ⟨_, _, ⟨rfl, rfl⟩, hK _ _ ⟨_, HL.out, ?_⟩⟩; clear hK K; rintro e w4 ⟨rfl, rfl⟩; refine ⟨_, rfl, ?_⟩; simp only [put_lit, List.set_cons_zero, List.set_cons_succ]
            cases b1 with
            | true =>
              have HR3 := Lib.hid (HR2.out rfl)
              clear HL HD HR2 HF
              (with_reducible refine wl_k ?_ ?_); exact rfl; intro K hK; go_simp; refine hK _ ?_; clear hK K
              (with_reducible refine wl_k ?_ ?_); exact rfl; intro K hK; go_simp; refine hK _ ?_; clear hK K
              (first | ((with_reducible refine wl_skipU ?_ ?_ ?_); exact rfl; exact rfl) | ((with_reducible refine wl_skip ?_ ?_); exact rfl; simp only [put_lit, List.set_cons_zero, List.set_cons_succ]))
              (first | ((with_reducible refine wl_skipU ?_ ?_ ?_); exact rfl; exact rfl) | ((with_reducible refine wl_skip ?_ ?_); exact rfl; simp only [put_lit, List.set_cons_zero, List.set_cons_succ]))
              (first | ((with_reducible refine wl_skipU ?_ ?_ ?_); exact rfl; exact rfl) | ((with_reducible refine wl_skip ?_ ?_); exact rfl; simp only [put_lit, List.set_cons_zero, List.set_cons_succ]))
              (first | ((with_reducible refine wl_skipU ?_ ?_ ?_); exact rfl; exact rfl) | ((with_reducible refine wl_skip ?_ ?_); exact rfl; simp only [put_lit, List.set_cons_zero, List.set_cons_succ]))
              (first | ((with_reducible refine wl_skipU ?_ ?_ ?_); exact rfl; exact rfl) | ((with_reducible refine wl_skip ?_ ?_); exact rfl; simp only [put_lit, List.set_cons_zero, List.set_cons_succ]))
              (with_reducible refine wl_k ?_ ?_); exact rfl; intro K hK; go_simp; refine hK _ ?_; clear hK K
              go_wp2_with fail
              go_roundw
              case rel => exact ⟨j + 1, by omega, by go_num, HR3, trivial⟩
              case measure => simp [intOf]; omega
            | false =>
              (with_reducible refine wl_k ?_ ?_); exact rfl; intro K hK; go_simp; refine hK _ ?_; clear hK K
              (with_reducible refine wl_k ?_ ?_); exact rfl; intro K hK; go_simp; refine hK _ ?_; clear hK K
              (with_reducible refine wl_k ?_ ?_); exact rfl; intro K hK; go_simp; refine hK _ ?_; clear hK K
              (with_reducible refine wl_k ?_ ?_); exact rfl; intro K hK; go_simp; refine hK _ ?_; clear hK K
              (with_reducible refine wl_k ?_ ?_); exact rfl; intro K hK; go_simp; refine hK _ ?_; clear hK K
              (with_reducible refine wl_ck ?_ ?_); exact rfl; intro K hK; go_simp; refine ⟨_, _, ⟨rfl, rfl⟩, hK _ _ ⟨_, HD.out, ?_⟩⟩; clear hK K; rintro e w4 ⟨rfl, rfl⟩; refine ⟨_, rfl, ?_⟩; simp only [put_lit, List.set_cons_zero, List.set_cons_succ]
              cases b2 with
              | true =>
                have HR3 := Lib.hid (HR2.out rfl)
                clear HL HD HR2 HF
                (with_reducible refine wl_k ?_ ?_); exact rfl; intro K hK; go_simp; refine hK _ ?_; clear hK K
                (with_reducible refine wl_k ?_ ?_); exact rfl; intro K hK; go_simp; refine hK _ ?_; clear hK K
                go_wp2_with fail
                go_roundw
                case rel => exact ⟨j + 1, by omega, by go_num, HR3, trivial⟩
                case measure => simp [intOf]; omega
              | false =>
                have HF2 := Lib.hid (HF.out rfl)
                clear HL HD HR2 HF
                (with_reducible refine wl_k ?_ ?_); exact rfl; intro K hK; go_simp; refine hK _ ?_; clear hK K
                (with_reducible refine wl_k ?_ ?_); exact rfl; intro K hK; go_simp; refine hK _ ?_; clear hK K
                go_wp2_with fail
                go_ret
                exact ⟨by rw [HF2.out]; rfl, rfl⟩
          · have hltI : ¬ (j : Int) < (s.size : Int) := by omega
            have HF : Hid (tnameB s = true) := Lib.hid (by
              rw [HT.out, List.all_eq_true]
              intro c hc
              obtain ⟨i, hi⟩ := List.mem_iff_getElem?.1 hc
              exact HR.out i c (by have := (List.getElem?_eq_some_iff.1 hi).1; rw [bytes_size] at this; omega) hi)
            go_wp2_with fail
            go_ret
            exact ⟨by rw [HF.out]; rfl, rfl⟩
end Go.Proofs.YtokmaehefenpmaaDoor
