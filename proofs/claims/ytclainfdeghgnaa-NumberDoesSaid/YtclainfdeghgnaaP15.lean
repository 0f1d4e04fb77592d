/- Any operation on two texts, the document's; the law. -/
import Derived.Test.YtclainfdeghgnaaP14
import Derived.Test.YtclainfdeghgnaaP13
import Derived.Outline
namespace Go.Proofs.Ytclainfdeghgnaa
open Go.RowKit Go.Proofs.Ytclainfdeghgnaa.Nm Go.Proofs.Ytclainfdeghgnaa.Lm
theorem exactI_any (op : ByteArray) (n : Nat) (s : Bool) (x y : Int) (A A' : Option Addr) (c c' : Nat) (ho : isOpL op.data.toList = true) (n1 : 1 ≤ n) (n2 : n ≤ 64) (hx : x.natAbs ≤ 18446744073709551616) (hy : y.natAbs ≤ 18446744073709551616)
    (hs : isShift op.data.toList = true → 0 ≤ y ∧ y ≤ 64) (hd : op.data.toList = [47] ∨ op.data.toList = [37] → y ≠ 0) (w : World) (hI : IvAt w x A c) (hJ : IvAt w y A' c') :
    Calls Try.prog 70 #[.string op, .agg (iv x A c), .agg (iv y A' c'), .int .i64 (n : Int), .bool s] w fun e w' => ∃ A2 c2, e = .returned (.agg (iv (doX op.data.toList n s x y) A2 c2)) ∧ IvAt w' (doX op.data.toList n s x y) A2 c2 ∧ Below w.heap.size w w' := by
  have ho' := ho
  unfold isOpL at ho'
  simp only [Bool.or_eq_true, beq_iff_eq] at ho'
  rcases ho' with ((((((((h | h) | h) | h) | h) | h) | h) | h) | h) | h
  · rw [show doX op.data.toList n s x y = x + y by unfold doX; rw [if_pos h]]
    exact exactI_add op n s x y A A' c c' h hx hy w hI hJ
  · rw [show doX op.data.toList n s x y = x - y by unfold doX; rw [if_neg (by rw [h]; decide), if_pos h]]
    exact exactI_sub op n s x y A A' c c' h hx hy w hI hJ
  · rw [show doX op.data.toList n s x y = x * y by unfold doX; rw [if_neg (by rw [h]; decide), if_neg (by rw [h]; decide), if_pos h]]
    exact exactI_mul op n s x y A A' c c' h hx hy w hI hJ
  · rw [show doX op.data.toList n s x y = Int.tdiv x y by unfold doX; rw [if_neg (by rw [h]; decide), if_neg (by rw [h]; decide), if_neg (by rw [h]; decide), if_pos h]]
    exact exactI_div op n s x y A A' c c' h hx hy (hd (Or.inl h)) w hI hJ
  · rw [show doX op.data.toList n s x y = Int.tmod x y by unfold doX; rw [if_neg (by rw [h]; decide), if_neg (by rw [h]; decide), if_neg (by rw [h]; decide), if_neg (by rw [h]; decide), if_pos h]]
    exact exactI_mod op n s x y A A' c c' h hx hy (hd (Or.inr h)) w hI hJ
  · have e : bwN op.data.toList (lowN n x) (lowN n y) = lowN n x &&& lowN n y := by unfold bwN; rw [if_pos h]
    have hl := bwN_lt op.data.toList (lowN_lt n x) (lowN_lt n y)
    rw [e] at hl
    rw [show doX op.data.toList n s x y = wrapW n s ((lowN n x &&& lowN n y : Nat) : Int) by unfold doX; rw [if_neg (by rw [h]; decide), if_neg (by rw [h]; decide), if_neg (by rw [h]; decide), if_neg (by rw [h]; decide), if_neg (by rw [h]; decide), if_neg (by rw [h]; decide), if_neg (by rw [h]; decide), e]]
    exact exactI_and op n s x y A A' c c' h n1 n2 hx hy _ _ (lowN_cast n x) (lowN_cast n y) hl w hI hJ
  · have e : bwN op.data.toList (lowN n x) (lowN n y) = lowN n x ||| lowN n y := by unfold bwN; rw [if_neg (by rw [h]; decide), if_pos h]
    have hl := bwN_lt op.data.toList (lowN_lt n x) (lowN_lt n y)
    rw [e] at hl
    rw [show doX op.data.toList n s x y = wrapW n s ((lowN n x ||| lowN n y : Nat) : Int) by unfold doX; rw [if_neg (by rw [h]; decide), if_neg (by rw [h]; decide), if_neg (by rw [h]; decide), if_neg (by rw [h]; decide), if_neg (by rw [h]; decide), if_neg (by rw [h]; decide), if_neg (by rw [h]; decide), e]]
    exact exactI_or op n s x y A A' c c' h n1 n2 hx hy _ _ (lowN_cast n x) (lowN_cast n y) hl w hI hJ
  · have e : bwN op.data.toList (lowN n x) (lowN n y) = lowN n x ^^^ lowN n y := by unfold bwN; rw [if_neg (by rw [h]; decide), if_neg (by rw [h]; decide)]
    have hl := bwN_lt op.data.toList (lowN_lt n x) (lowN_lt n y)
    rw [e] at hl
    rw [show doX op.data.toList n s x y = wrapW n s ((lowN n x ^^^ lowN n y : Nat) : Int) by unfold doX; rw [if_neg (by rw [h]; decide), if_neg (by rw [h]; decide), if_neg (by rw [h]; decide), if_neg (by rw [h]; decide), if_neg (by rw [h]; decide), if_neg (by rw [h]; decide), if_neg (by rw [h]; decide), e]]
    exact exactI_xor op n s x y A A' c c' h n1 n2 hx hy _ _ (lowN_cast n x) (lowN_cast n y) hl w hI hJ
  · have := hs (by rw [h]; decide)
    rw [show doX op.data.toList n s x y = x * t2 y by unfold doX; rw [if_neg (by rw [h]; decide), if_neg (by rw [h]; decide), if_neg (by rw [h]; decide), if_neg (by rw [h]; decide), if_neg (by rw [h]; decide), if_pos h]; rfl]
    exact exactI_shl op n s x y A A' c c' h hx hy this.1 this.2 w hI hJ
  · have := hs (by rw [h]; decide)
    rw [show doX op.data.toList n s x y = x / t2 y by unfold doX; rw [if_neg (by rw [h]; decide), if_neg (by rw [h]; decide), if_neg (by rw [h]; decide), if_neg (by rw [h]; decide), if_neg (by rw [h]; decide), if_neg (by rw [h]; decide), if_pos h]; rfl]
    exact exactI_shr op n s x y A A' c c' h hx hy this.1 this.2 w hI hJ
set_option maxHeartbeats 1000000 in
theorem isOpI_any (m : ByteArray) (R : Bool) (HR : Hid (R = isOpL m.data.toList)) (w : World) :
    Calls Try.prog 64 #[.string m] w fun e w' => e = .returned (.bool R) ∧ Below w.heap.size w w' := by
  have hu := HR.out
  unfold isOpL at hu
  clear HR
  have e (l : List UInt8) : (m.toList == l) = (m.data.toList == l) := by rw [ByteArray.toList_eq]
  rw [← e, ← e, ← e, ← e, ← e, ← e, ← e, ← e, ← e, ← e] at hu
  clear e
  cases h0 : (m.toList == [43])
  rotate_left
  · rw [h0] at hu; simp at hu
    rw [hu]
    clear hu
    go_enter Try.func64, Try.ntmps64
    go_wp2_with fail
    go_ret
    exact ⟨rfl, Below.refl _ _⟩
  cases h1 : (m.toList == [45])
  rotate_left
  · rw [h0, h1] at hu; simp at hu
    rw [hu]
    clear hu
    go_enter Try.func64, Try.ntmps64
    go_wp2_with fail
    go_ret
    exact ⟨rfl, Below.refl _ _⟩
  cases h2 : (m.toList == [42])
  rotate_left
  · rw [h0, h1, h2] at hu; simp at hu
    rw [hu]
    clear hu
    go_enter Try.func64, Try.ntmps64
    go_wp2_with fail
    go_ret
    exact ⟨rfl, Below.refl _ _⟩
  cases h3 : (m.toList == [47])
  rotate_left
  · rw [h0, h1, h2, h3] at hu; simp at hu
    rw [hu]
    clear hu
    go_enter Try.func64, Try.ntmps64
    go_wp2_with fail
    go_ret
    exact ⟨rfl, Below.refl _ _⟩
  cases h4 : (m.toList == [37])
  rotate_left
  · rw [h0, h1, h2, h3, h4] at hu; simp at hu
    rw [hu]
    clear hu
    go_enter Try.func64, Try.ntmps64
    go_wp2_with fail
    go_ret
    exact ⟨rfl, Below.refl _ _⟩
  cases h5 : (m.toList == [38])
  rotate_left
  · rw [h0, h1, h2, h3, h4, h5] at hu; simp at hu
    rw [hu]
    clear hu
    go_enter Try.func64, Try.ntmps64
    go_wp2_with fail
    go_ret
    exact ⟨rfl, Below.refl _ _⟩
  cases h6 : (m.toList == [124])
  rotate_left
  · rw [h0, h1, h2, h3, h4, h5, h6] at hu; simp at hu
    rw [hu]
    clear hu
    go_enter Try.func64, Try.ntmps64
    go_wp2_with fail
    go_ret
    exact ⟨rfl, Below.refl _ _⟩
  cases h7 : (m.toList == [94])
  rotate_left
  · rw [h0, h1, h2, h3, h4, h5, h6, h7] at hu; simp at hu
    rw [hu]
    clear hu
    go_enter Try.func64, Try.ntmps64
    go_wp2_with fail
    go_ret
    exact ⟨rfl, Below.refl _ _⟩
  cases h8 : (m.toList == [60, 60])
  rotate_left
  · rw [h0, h1, h2, h3, h4, h5, h6, h7, h8] at hu; simp at hu
    rw [hu]
    clear hu
    go_enter Try.func64, Try.ntmps64
    go_wp2_with fail
    go_ret
    exact ⟨rfl, Below.refl _ _⟩
  cases h9 : (m.toList == [62, 62])
  rotate_left
  · rw [h0, h1, h2, h3, h4, h5, h6, h7, h8, h9] at hu; simp at hu
    rw [hu]
    clear hu
    go_enter Try.func64, Try.ntmps64
    go_wp2_with fail
    go_ret
    exact ⟨rfl, Below.refl _ _⟩
  rw [h0, h1, h2, h3, h4, h5, h6, h7, h8, h9] at hu; simp at hu
  rw [hu]
  clear hu
  go_enter Try.func64, Try.ntmps64
  go_wp2_with fail
  go_ret
  exact ⟨rfl, Below.refl _ _⟩
set_option maxHeartbeats 400000 in
theorem DoI_form1 (op a b md : ByteArray) (n : Int) (s : Bool) (hx : rdm a = none) (w : World) :
    Calls Try.prog 23 #[.string op, .string a, .string b, .int .i64 n, .bool s, .string md] w fun e w' => e = .returned (.tuple #[.string ⟨#[]⟩, .int .i64 4]) ∧ Below w.heap.size w w' := by
  have R1 := Lib.hid (ReadI_any a)
  have R2 := Lib.hid (ReadI_any b)
  rw [hx] at R1
  simp only [Option.getD_none, Option.isSome_none] at R1
  clear hx
  go_enter Try.func23, Try.ntmps23
  go_upto_region 1 with (fail)
  have hb := Below.refl w.heap.size w
  apply wp_region_lit
  refine wl_k rfl (fun K hK => ?_); go_simp; refine hK _ ?_; clear hK K
  refine wl_ck rfl (fun K hK => ?_); go_simp; refine ⟨_, _, ⟨rfl, rfl⟩, hK _ _ ⟨_, R1.out _, ?_⟩⟩; clear hK K; rintro e w1 ⟨A1, c1, rfl, i1, hb1⟩; refine ⟨_, rfl, ?_⟩; simp only [put_lit, List.set_cons_zero, List.set_cons_succ]
  replace hb := hb.trans (hb1.mono hb.size); clear hb1
  refine wl_k rfl (fun K hK => ?_); go_simp; refine hK _ ?_; clear hK K
  refine wl_k rfl (fun K hK => ?_); go_simp; refine hK _ ?_; clear hK K
  refine wl_k rfl (fun K hK => ?_); go_simp; refine hK _ ?_; clear hK K
  (have lsp14 := hb.size; (with_reducible apply wl_new84); intro w2 p14 hbn hlp14 hp14; replace i1 := i1.below hbn; replace hb := hb.trans (hbn.mono hb.size); clear hbn)
  ((with_reducible apply wl_putI); exact rfl; exact rfl; exact hp14; intro w3 hbx hk hq hi; replace i1 := hi _ _ _ i1; replace hb := hbx _ _ (by omega) hb; clear hp14; have hp14 := hq; clear hbx hk hq hi)
  go_upto_region 2 with (fail)
  apply wp_region_lit
  refine wl_k rfl (fun K hK => ?_); go_simp; refine hK _ ?_; clear hK K
  refine wl_ck rfl (fun K hK => ?_); go_simp; refine ⟨_, _, ⟨rfl, rfl⟩, hK _ _ ⟨_, R2.out _, ?_⟩⟩; clear hK K; rintro e w4 ⟨A2, c2, rfl, i2, hb1⟩; refine ⟨_, rfl, ?_⟩; simp only [put_lit, List.set_cons_zero, List.set_cons_succ]
  replace hp14 := below_look hb1 hp14; replace i1 := i1.below hb1; replace hb := hb.trans (hb1.mono hb.size); clear hb1
  refine wl_k rfl (fun K hK => ?_); go_simp; refine hK _ ?_; clear hK K
  refine wl_k rfl (fun K hK => ?_); go_simp; refine hK _ ?_; clear hK K
  refine wl_k rfl (fun K hK => ?_); go_simp; refine hK _ ?_; clear hK K
  (have lthp14p16 := heap_lt hp14; have lsp16 := hb.size; (with_reducible apply wl_new84); intro w5 p16 hbn hlp16 hp16; replace hp14 := below_look hbn hp14; replace i1 := i1.below hbn; replace i2 := i2.below hbn; replace hb := hb.trans (hbn.mono hb.size); clear hbn)
  ((with_reducible apply wl_putI); exact rfl; exact rfl; exact hp16; intro w6 hbx hk hq hi; replace hp14 := hk _ _ (by omega) hp14; replace i1 := hi _ _ _ i1; replace i2 := hi _ _ _ i2; replace hb := hbx _ _ (by omega) hb; clear hp16; have hp16 := hq; clear hbx hk hq hi)
  go_wp2_with fail
  exact bodyPost_ret (results_tmp2 rfl _ _ _) rfl ⟨rfl, hb⟩
set_option maxHeartbeats 400000 in
theorem DoI_form2 (op a b md : ByteArray) (n : Int) (s : Bool) (x : Int) (hx : rdm a = some x) (hy : rdm b = none) (w : World) :
    Calls Try.prog 23 #[.string op, .string a, .string b, .int .i64 n, .bool s, .string md] w fun e w' => e = .returned (.tuple #[.string ⟨#[]⟩, .int .i64 4]) ∧ Below w.heap.size w w' := by
  have R1 := Lib.hid (ReadI_any a)
  have R2 := Lib.hid (ReadI_any b)
  rw [hx] at R1
  rw [hy] at R2
  simp only [Option.getD_some, Option.isSome_some] at R1
  simp only [Option.getD_none, Option.isSome_none] at R2
  clear hx hy
  go_enter Try.func23, Try.ntmps23
  go_upto_region 1 with (fail)
  have hb := Below.refl w.heap.size w
  apply wp_region_lit
  refine wl_k rfl (fun K hK => ?_); go_simp; refine hK _ ?_; clear hK K
  refine wl_ck rfl (fun K hK => ?_); go_simp; refine ⟨_, _, ⟨rfl, rfl⟩, hK _ _ ⟨_, R1.out _, ?_⟩⟩; clear hK K; rintro e w1 ⟨A1, c1, rfl, i1, hb1⟩; refine ⟨_, rfl, ?_⟩; simp only [put_lit, List.set_cons_zero, List.set_cons_succ]
  replace hb := hb.trans (hb1.mono hb.size); clear hb1
  refine wl_k rfl (fun K hK => ?_); go_simp; refine hK _ ?_; clear hK K
  refine wl_k rfl (fun K hK => ?_); go_simp; refine hK _ ?_; clear hK K
  refine wl_k rfl (fun K hK => ?_); go_simp; refine hK _ ?_; clear hK K
  (have lsp14 := hb.size; (with_reducible apply wl_new84); intro w2 p14 hbn hlp14 hp14; replace i1 := i1.below hbn; replace hb := hb.trans (hbn.mono hb.size); clear hbn)
  ((with_reducible apply wl_putI); exact rfl; exact rfl; exact hp14; intro w3 hbx hk hq hi; replace i1 := hi _ _ _ i1; replace hb := hbx _ _ (by omega) hb; clear hp14; have hp14 := hq; clear hbx hk hq hi)
  go_upto_region 2 with (fail)
  apply wp_region_lit
  refine wl_k rfl (fun K hK => ?_); go_simp; refine hK _ ?_; clear hK K
  refine wl_ck rfl (fun K hK => ?_); go_simp; refine ⟨_, _, ⟨rfl, rfl⟩, hK _ _ ⟨_, R2.out _, ?_⟩⟩; clear hK K; rintro e w4 ⟨A2, c2, rfl, i2, hb1⟩; refine ⟨_, rfl, ?_⟩; simp only [put_lit, List.set_cons_zero, List.set_cons_succ]
  replace hp14 := below_look hb1 hp14; replace i1 := i1.below hb1; replace hb := hb.trans (hb1.mono hb.size); clear hb1
  refine wl_k rfl (fun K hK => ?_); go_simp; refine hK _ ?_; clear hK K
  refine wl_k rfl (fun K hK => ?_); go_simp; refine hK _ ?_; clear hK K
  refine wl_k rfl (fun K hK => ?_); go_simp; refine hK _ ?_; clear hK K
  (have lthp14p16 := heap_lt hp14; have lsp16 := hb.size; (with_reducible apply wl_new84); intro w5 p16 hbn hlp16 hp16; replace hp14 := below_look hbn hp14; replace i1 := i1.below hbn; replace i2 := i2.below hbn; replace hb := hb.trans (hbn.mono hb.size); clear hbn)
  ((with_reducible apply wl_putI); exact rfl; exact rfl; exact hp16; intro w6 hbx hk hq hi; replace hp14 := hk _ _ (by omega) hp14; replace i1 := hi _ _ _ i1; replace i2 := hi _ _ _ i2; replace hb := hbx _ _ (by omega) hb; clear hp16; have hp16 := hq; clear hbx hk hq hi)
  go_wp2_with fail
  exact bodyPost_ret (results_tmp2 rfl _ _ _) rfl ⟨rfl, hb⟩
set_option maxHeartbeats 400000 in
theorem DoI_name1 (op a b md : ByteArray) (n : Int) (s : Bool) (x y : Int) (hx : rdm a = some x) (hy : rdm b = some y) (hr : Hid (isRight n = false)) (w : World) :
    Calls Try.prog 23 #[.string op, .string a, .string b, .int .i64 n, .bool s, .string md] w fun e w' => e = .returned (.tuple #[.string ⟨#[]⟩, .int .i64 3]) ∧ Below w.heap.size w w' := by
  have R1 := Lib.hid (ReadI_any a)
  have R2 := Lib.hid (ReadI_any b)
  rw [hx] at R1
  rw [hy] at R2
  simp only [Option.getD_some, Option.isSome_some] at R1 R2
  clear hx hy
  go_enter Try.func23, Try.ntmps23
  go_upto_region 1 with (fail)
  have hb := Below.refl w.heap.size w
  apply wp_region_lit
  refine wl_k rfl (fun K hK => ?_); go_simp; refine hK _ ?_; clear hK K
  refine wl_ck rfl (fun K hK => ?_); go_simp; refine ⟨_, _, ⟨rfl, rfl⟩, hK _ _ ⟨_, R1.out _, ?_⟩⟩; clear hK K; rintro e w1 ⟨A1, c1, rfl, i1, hb1⟩; refine ⟨_, rfl, ?_⟩; simp only [put_lit, List.set_cons_zero, List.set_cons_succ]
  replace hb := hb.trans (hb1.mono hb.size); clear hb1
  refine wl_k rfl (fun K hK => ?_); go_simp; refine hK _ ?_; clear hK K
  refine wl_k rfl (fun K hK => ?_); go_simp; refine hK _ ?_; clear hK K
  refine wl_k rfl (fun K hK => ?_); go_simp; refine hK _ ?_; clear hK K
  (have lsp14 := hb.size; (with_reducible apply wl_new84); intro w2 p14 hbn hlp14 hp14; replace i1 := i1.below hbn; replace hb := hb.trans (hbn.mono hb.size); clear hbn)
  ((with_reducible apply wl_putI); exact rfl; exact rfl; exact hp14; intro w3 hbx hk hq hi; replace i1 := hi _ _ _ i1; replace hb := hbx _ _ (by omega) hb; clear hp14; have hp14 := hq; clear hbx hk hq hi)
  go_upto_region 2 with (fail)
  apply wp_region_lit
  refine wl_k rfl (fun K hK => ?_); go_simp; refine hK _ ?_; clear hK K
  refine wl_ck rfl (fun K hK => ?_); go_simp; refine ⟨_, _, ⟨rfl, rfl⟩, hK _ _ ⟨_, R2.out _, ?_⟩⟩; clear hK K; rintro e w4 ⟨A2, c2, rfl, i2, hb1⟩; refine ⟨_, rfl, ?_⟩; simp only [put_lit, List.set_cons_zero, List.set_cons_succ]
  replace hp14 := below_look hb1 hp14; replace i1 := i1.below hb1; replace hb := hb.trans (hb1.mono hb.size); clear hb1
  refine wl_k rfl (fun K hK => ?_); go_simp; refine hK _ ?_; clear hK K
  refine wl_k rfl (fun K hK => ?_); go_simp; refine hK _ ?_; clear hK K
  refine wl_k rfl (fun K hK => ?_); go_simp; refine hK _ ?_; clear hK K
  (have lthp14p16 := heap_lt hp14; have lsp16 := hb.size; (with_reducible apply wl_new84); intro w5 p16 hbn hlp16 hp16; replace hp14 := below_look hbn hp14; replace i1 := i1.below hbn; replace i2 := i2.below hbn; replace hb := hb.trans (hbn.mono hb.size); clear hbn)
  ((with_reducible apply wl_putI); exact rfl; exact rfl; exact hp16; intro w6 hbx hk hq hi; replace hp14 := hk _ _ (by omega) hp14; replace i1 := hi _ _ _ i1; replace i2 := hi _ _ _ i2; replace hb := hbx _ _ (by omega) hb; clear hp16; have hp16 := hq; clear hbx hk hq hi)
  go_upto_region 5 with (fail)
  apply wp_region_lit
  refine wl_k rfl (fun K hK => ?_); go_simp; refine hK _ ?_; clear hK K
  refine wl_ck rfl (fun K hK => ?_); go_simp; refine ⟨_, _, ⟨rfl, rfl⟩, hK _ _ ⟨_, isWidth_any n false (Lib.hid hr.out.symm) _, ?_⟩⟩; clear hK K; rintro e w7 ⟨rfl, hb1⟩; refine ⟨_, rfl, ?_⟩; simp only [put_lit, List.set_cons_zero, List.set_cons_succ]
  replace hp14 := below_look hb1 hp14; replace hp16 := below_look hb1 hp16; replace i1 := i1.below hb1; replace i2 := i2.below hb1; replace hb := hb.trans (hb1.mono hb.size); clear hb1
  go_wp2_with fail
  exact bodyPost_ret (results_tmp2 rfl _ _ _) rfl ⟨rfl, hb⟩
set_option maxHeartbeats 400000 in
theorem DoI_name2 (op a b md : ByteArray) (n : Int) (s : Bool) (x y : Int) (hx : rdm a = some x) (hy : rdm b = some y) (hr : Hid (isRight n = true)) (ho : Hid (isOpL op.data.toList = false)) (w : World) :
    Calls Try.prog 23 #[.string op, .string a, .string b, .int .i64 n, .bool s, .string md] w fun e w' => e = .returned (.tuple #[.string ⟨#[]⟩, .int .i64 3]) ∧ Below w.heap.size w w' := by
  have R1 := Lib.hid (ReadI_any a)
  have R2 := Lib.hid (ReadI_any b)
  rw [hx] at R1
  rw [hy] at R2
  simp only [Option.getD_some, Option.isSome_some] at R1 R2
  clear hx hy
  go_enter Try.func23, Try.ntmps23
  go_upto_region 1 with (fail)
  have hb := Below.refl w.heap.size w
  apply wp_region_lit
  refine wl_k rfl (fun K hK => ?_); go_simp; refine hK _ ?_; clear hK K
  refine wl_ck rfl (fun K hK => ?_); go_simp; refine ⟨_, _, ⟨rfl, rfl⟩, hK _ _ ⟨_, R1.out _, ?_⟩⟩; clear hK K; rintro e w1 ⟨A1, c1, rfl, i1, hb1⟩; refine ⟨_, rfl, ?_⟩; simp only [put_lit, List.set_cons_zero, List.set_cons_succ]
  replace hb := hb.trans (hb1.mono hb.size); clear hb1
  refine wl_k rfl (fun K hK => ?_); go_simp; refine hK _ ?_; clear hK K
  refine wl_k rfl (fun K hK => ?_); go_simp; refine hK _ ?_; clear hK K
  refine wl_k rfl (fun K hK => ?_); go_simp; refine hK _ ?_; clear hK K
  (have lsp14 := hb.size; (with_reducible apply wl_new84); intro w2 p14 hbn hlp14 hp14; replace i1 := i1.below hbn; replace hb := hb.trans (hbn.mono hb.size); clear hbn)
  ((with_reducible apply wl_putI); exact rfl; exact rfl; exact hp14; intro w3 hbx hk hq hi; replace i1 := hi _ _ _ i1; replace hb := hbx _ _ (by omega) hb; clear hp14; have hp14 := hq; clear hbx hk hq hi)
  go_upto_region 2 with (fail)
  apply wp_region_lit
  refine wl_k rfl (fun K hK => ?_); go_simp; refine hK _ ?_; clear hK K
  refine wl_ck rfl (fun K hK => ?_); go_simp; refine ⟨_, _, ⟨rfl, rfl⟩, hK _ _ ⟨_, R2.out _, ?_⟩⟩; clear hK K; rintro e w4 ⟨A2, c2, rfl, i2, hb1⟩; refine ⟨_, rfl, ?_⟩; simp only [put_lit, List.set_cons_zero, List.set_cons_succ]
  replace hp14 := below_look hb1 hp14; replace i1 := i1.below hb1; replace hb := hb.trans (hb1.mono hb.size); clear hb1
  refine wl_k rfl (fun K hK => ?_); go_simp; refine hK _ ?_; clear hK K
  refine wl_k rfl (fun K hK => ?_); go_simp; refine hK _ ?_; clear hK K
  refine wl_k rfl (fun K hK => ?_); go_simp; refine hK _ ?_; clear hK K
  (have lthp14p16 := heap_lt hp14; have lsp16 := hb.size; (with_reducible apply wl_new84); intro w5 p16 hbn hlp16 hp16; replace hp14 := below_look hbn hp14; replace i1 := i1.below hbn; replace i2 := i2.below hbn; replace hb := hb.trans (hbn.mono hb.size); clear hbn)
  ((with_reducible apply wl_putI); exact rfl; exact rfl; exact hp16; intro w6 hbx hk hq hi; replace hp14 := hk _ _ (by omega) hp14; replace i1 := hi _ _ _ i1; replace i2 := hi _ _ _ i2; replace hb := hbx _ _ (by omega) hb; clear hp16; have hp16 := hq; clear hbx hk hq hi)
  go_upto_region 5 with (fail)
  apply wp_region_lit
  refine wl_k rfl (fun K hK => ?_); go_simp; refine hK _ ?_; clear hK K
  refine wl_ck rfl (fun K hK => ?_); go_simp; refine ⟨_, _, ⟨rfl, rfl⟩, hK _ _ ⟨_, isWidth_any n true (Lib.hid hr.out.symm) _, ?_⟩⟩; clear hK K; rintro e w7 ⟨rfl, hb1⟩; refine ⟨_, rfl, ?_⟩; simp only [put_lit, List.set_cons_zero, List.set_cons_succ]
  replace hp14 := below_look hb1 hp14; replace hp16 := below_look hb1 hp16; replace i1 := i1.below hb1; replace i2 := i2.below hb1; replace hb := hb.trans (hb1.mono hb.size); clear hb1
  refine wl_k rfl (fun K hK => ?_); go_simp; refine hK _ ?_; clear hK K
  refine wl_k rfl (fun K hK => ?_); go_simp; refine hK _ ?_; clear hK K
  refine wl_k rfl (fun K hK => ?_); go_simp; refine hK _ ?_; clear hK K
  refine wl_ck rfl (fun K hK => ?_); go_simp; refine ⟨_, _, ⟨rfl, rfl⟩, hK _ _ ⟨_, isOpI_any op false (Lib.hid ho.out.symm) _, ?_⟩⟩; clear hK K; rintro e w8 ⟨rfl, hb1⟩; refine ⟨_, rfl, ?_⟩; simp only [put_lit, List.set_cons_zero, List.set_cons_succ]
  replace hp14 := below_look hb1 hp14; replace hp16 := below_look hb1 hp16; replace i1 := i1.below hb1; replace i2 := i2.below hb1; replace hb := hb.trans (hb1.mono hb.size); clear hb1
  go_wp2_with fail
  exact bodyPost_ret (results_tmp2 rfl _ _ _) rfl ⟨rfl, hb⟩
set_option maxHeartbeats 400000 in
theorem DoI_name3 (op a b md : ByteArray) (n : Int) (s : Bool) (x y : Int) (hx : rdm a = some x) (hy : rdm b = some y) (hr : Hid (isRight n = true)) (ho : Hid (isOpL op.data.toList = true)) (hm : Hid (isModeL md.data.toList = false)) (w : World) :
    Calls Try.prog 23 #[.string op, .string a, .string b, .int .i64 n, .bool s, .string md] w fun e w' => e = .returned (.tuple #[.string ⟨#[]⟩, .int .i64 3]) ∧ Below w.heap.size w w' := by
  have R1 := Lib.hid (ReadI_any a)
  have R2 := Lib.hid (ReadI_any b)
  rw [hx] at R1
  rw [hy] at R2
  simp only [Option.getD_some, Option.isSome_some] at R1 R2
  clear hx hy
  go_enter Try.func23, Try.ntmps23
  go_upto_region 1 with (fail)
  have hb := Below.refl w.heap.size w
  apply wp_region_lit
  refine wl_k rfl (fun K hK => ?_); go_simp; refine hK _ ?_; clear hK K
  refine wl_ck rfl (fun K hK => ?_); go_simp; refine ⟨_, _, ⟨rfl, rfl⟩, hK _ _ ⟨_, R1.out _, ?_⟩⟩; clear hK K; rintro e w1 ⟨A1, c1, rfl, i1, hb1⟩; refine ⟨_, rfl, ?_⟩; simp only [put_lit, List.set_cons_zero, List.set_cons_succ]
  replace hb := hb.trans (hb1.mono hb.size); clear hb1
  refine wl_k rfl (fun K hK => ?_); go_simp; refine hK _ ?_; clear hK K
  refine wl_k rfl (fun K hK => ?_); go_simp; refine hK _ ?_; clear hK K
  refine wl_k rfl (fun K hK => ?_); go_simp; refine hK _ ?_; clear hK K
  (have lsp14 := hb.size; (with_reducible apply wl_new84); intro w2 p14 hbn hlp14 hp14; replace i1 := i1.below hbn; replace hb := hb.trans (hbn.mono hb.size); clear hbn)
  ((with_reducible apply wl_putI); exact rfl; exact rfl; exact hp14; intro w3 hbx hk hq hi; replace i1 := hi _ _ _ i1; replace hb := hbx _ _ (by omega) hb; clear hp14; have hp14 := hq; clear hbx hk hq hi)
  go_upto_region 2 with (fail)
  apply wp_region_lit
  refine wl_k rfl (fun K hK => ?_); go_simp; refine hK _ ?_; clear hK K
  refine wl_ck rfl (fun K hK => ?_); go_simp; refine ⟨_, _, ⟨rfl, rfl⟩, hK _ _ ⟨_, R2.out _, ?_⟩⟩; clear hK K; rintro e w4 ⟨A2, c2, rfl, i2, hb1⟩; refine ⟨_, rfl, ?_⟩; simp only [put_lit, List.set_cons_zero, List.set_cons_succ]
  replace hp14 := below_look hb1 hp14; replace i1 := i1.below hb1; replace hb := hb.trans (hb1.mono hb.size); clear hb1
  refine wl_k rfl (fun K hK => ?_); go_simp; refine hK _ ?_; clear hK K
  refine wl_k rfl (fun K hK => ?_); go_simp; refine hK _ ?_; clear hK K
  refine wl_k rfl (fun K hK => ?_); go_simp; refine hK _ ?_; clear hK K
  (have lthp14p16 := heap_lt hp14; have lsp16 := hb.size; (with_reducible apply wl_new84); intro w5 p16 hbn hlp16 hp16; replace hp14 := below_look hbn hp14; replace i1 := i1.below hbn; replace i2 := i2.below hbn; replace hb := hb.trans (hbn.mono hb.size); clear hbn)
  ((with_reducible apply wl_putI); exact rfl; exact rfl; exact hp16; intro w6 hbx hk hq hi; replace hp14 := hk _ _ (by omega) hp14; replace i1 := hi _ _ _ i1; replace i2 := hi _ _ _ i2; replace hb := hbx _ _ (by omega) hb; clear hp16; have hp16 := hq; clear hbx hk hq hi)
  go_upto_region 5 with (fail)
  apply wp_region_lit
  refine wl_k rfl (fun K hK => ?_); go_simp; refine hK _ ?_; clear hK K
  refine wl_ck rfl (fun K hK => ?_); go_simp; refine ⟨_, _, ⟨rfl, rfl⟩, hK _ _ ⟨_, isWidth_any n true (Lib.hid hr.out.symm) _, ?_⟩⟩; clear hK K; rintro e w7 ⟨rfl, hb1⟩; refine ⟨_, rfl, ?_⟩; simp only [put_lit, List.set_cons_zero, List.set_cons_succ]
  replace hp14 := below_look hb1 hp14; replace hp16 := below_look hb1 hp16; replace i1 := i1.below hb1; replace i2 := i2.below hb1; replace hb := hb.trans (hb1.mono hb.size); clear hb1
  refine wl_k rfl (fun K hK => ?_); go_simp; refine hK _ ?_; clear hK K
  refine wl_k rfl (fun K hK => ?_); go_simp; refine hK _ ?_; clear hK K
  refine wl_k rfl (fun K hK => ?_); go_simp; refine hK _ ?_; clear hK K
  refine wl_ck rfl (fun K hK => ?_); go_simp; refine ⟨_, _, ⟨rfl, rfl⟩, hK _ _ ⟨_, isOpI_any op true (Lib.hid ho.out.symm) _, ?_⟩⟩; clear hK K; rintro e w8 ⟨rfl, hb1⟩; refine ⟨_, rfl, ?_⟩; simp only [put_lit, List.set_cons_zero, List.set_cons_succ]
  replace hp14 := below_look hb1 hp14; replace hp16 := below_look hb1 hp16; replace i1 := i1.below hb1; replace i2 := i2.below hb1; replace hb := hb.trans (hb1.mono hb.size); clear hb1
  refine wl_k rfl (fun K hK => ?_); go_simp; refine hK _ ?_; clear hK K
  refine wl_k rfl (fun K hK => ?_); go_simp; refine hK _ ?_; clear hK K
  refine wl_k rfl (fun K hK => ?_); go_simp; refine hK _ ?_; clear hK K
  refine wl_k rfl (fun K hK => ?_); go_simp; refine hK _ ?_; clear hK K
  refine wl_ck rfl (fun K hK => ?_); go_simp; refine ⟨_, _, ⟨rfl, rfl⟩, hK _ _ ⟨_, isModeI_any md false (Lib.hid hm.out.symm) _, ?_⟩⟩; clear hK K; rintro e w9 ⟨rfl, hb1⟩; refine ⟨_, rfl, ?_⟩; simp only [put_lit, List.set_cons_zero, List.set_cons_succ]
  replace hp14 := below_look hb1 hp14; replace hp16 := below_look hb1 hp16; replace i1 := i1.below hb1; replace i2 := i2.below hb1; replace hb := hb.trans (hb1.mono hb.size); clear hb1
  go_wp2_with fail
  exact bodyPost_ret (results_tmp2 rfl _ _ _) rfl ⟨rfl, hb⟩
set_option maxHeartbeats 4000000 in
set_option maxRecDepth 100000 in
theorem DoI_range1 (op a b md : ByteArray) (n : Int) (s : Bool) (x y : Int) (hx : rdm a = some x) (hy : rdm b = some y) (hr : Hid (isRight n = true)) (ho : Hid (isOpL op.data.toList = true)) (hm : Hid (isModeL md.data.toList = true)) (HR1 : Hid (hasW n.toNat s x = false)) (s1 s2 : Bool) (l1 : (op.toList == [60, 60]) = s1) (l2 : (op.toList == [62, 62]) = s2) (w : World) :
    Calls Try.prog 23 #[.string op, .string a, .string b, .int .i64 n, .bool s, .string md] w fun e w' => e = .returned (.tuple #[.string ⟨#[]⟩, .int .i64 1]) ∧ Below w.heap.size w w' := by
  have nx : nl x.natAbs ≤ 5 := by have := rdm_nl (m := a); rw [hx] at this; exact this
  have ny : nl y.natAbs ≤ 5 := by have := rdm_nl (m := b); rw [hy] at this; exact this
  obtain ⟨k0, hk0, k1, k2, k3⟩ := right_bits hr.out
  have n1 : 1 ≤ n := by omega
  have n2 : n ≤ 64 := by omega
  have hwr : IntKind.i64.wrap (n - 1) = n - 1 := IntWalk.i64_in _ (by omega)
  clear hk0 k1 k2 k3
  have R1 := Lib.hid (ReadI_any a)
  have R2 := Lib.hid (ReadI_any b)
  rw [hx] at R1
  rw [hy] at R2
  simp only [Option.getD_some, Option.isSome_some] at R1 R2
  clear hx hy
  have hcs : s1 = true ∨ (s1 = false ∧ s2 = true) ∨ (s1 = false ∧ s2 = false) := by cases s1 <;> cases s2 <;> simp
  rcases hcs with rfl | ⟨rfl, rfl⟩ | ⟨rfl, rfl⟩
  all_goals
    go_enter Try.func23, Try.ntmps23
    go_upto_region 1 with (fail)
    have hb := Below.refl w.heap.size w
    apply wp_region_lit
    refine wl_k rfl (fun K hK => ?_); go_simp; refine hK _ ?_; clear hK K
    refine wl_ck rfl (fun K hK => ?_); go_simp; refine ⟨_, _, ⟨rfl, rfl⟩, hK _ _ ⟨_, R1.out _, ?_⟩⟩; clear hK K; rintro e w1 ⟨A1, c1, rfl, i1, hb1⟩; refine ⟨_, rfl, ?_⟩; simp only [put_lit, List.set_cons_zero, List.set_cons_succ]
    replace hb := hb.trans (hb1.mono hb.size); clear hb1
    refine wl_k rfl (fun K hK => ?_); go_simp; refine hK _ ?_; clear hK K
    refine wl_k rfl (fun K hK => ?_); go_simp; refine hK _ ?_; clear hK K
    refine wl_k rfl (fun K hK => ?_); go_simp; refine hK _ ?_; clear hK K
    (have lsp14 := hb.size; (with_reducible apply wl_new84); intro w2 p14 hbn hlp14 hp14; replace i1 := i1.below hbn; replace hb := hb.trans (hbn.mono hb.size); clear hbn)
    ((with_reducible apply wl_putI); exact rfl; exact rfl; exact hp14; intro w3 hbx hk hq hi; replace i1 := hi _ _ _ i1; replace hb := hbx _ _ (by omega) hb; clear hp14; have hp14 := hq; clear hbx hk hq hi)
    go_upto_region 2 with (fail)
    apply wp_region_lit
    refine wl_k rfl (fun K hK => ?_); go_simp; refine hK _ ?_; clear hK K
    refine wl_ck rfl (fun K hK => ?_); go_simp; refine ⟨_, _, ⟨rfl, rfl⟩, hK _ _ ⟨_, R2.out _, ?_⟩⟩; clear hK K; rintro e w4 ⟨A2, c2, rfl, i2, hb1⟩; refine ⟨_, rfl, ?_⟩; simp only [put_lit, List.set_cons_zero, List.set_cons_succ]
    replace hp14 := below_look hb1 hp14; replace i1 := i1.below hb1; replace hb := hb.trans (hb1.mono hb.size); clear hb1
    refine wl_k rfl (fun K hK => ?_); go_simp; refine hK _ ?_; clear hK K
    refine wl_k rfl (fun K hK => ?_); go_simp; refine hK _ ?_; clear hK K
    refine wl_k rfl (fun K hK => ?_); go_simp; refine hK _ ?_; clear hK K
    (have lthp14p16 := heap_lt hp14; have lsp16 := hb.size; (with_reducible apply wl_new84); intro w5 p16 hbn hlp16 hp16; replace hp14 := below_look hbn hp14; replace i1 := i1.below hbn; replace i2 := i2.below hbn; replace hb := hb.trans (hbn.mono hb.size); clear hbn)
    ((with_reducible apply wl_putI); exact rfl; exact rfl; exact hp16; intro w6 hbx hk hq hi; replace hp14 := hk _ _ (by omega) hp14; replace i1 := hi _ _ _ i1; replace i2 := hi _ _ _ i2; replace hb := hbx _ _ (by omega) hb; clear hp16; have hp16 := hq; clear hbx hk hq hi)
    go_upto_region 5 with (fail)
    apply wp_region_lit
    refine wl_k rfl (fun K hK => ?_); go_simp; refine hK _ ?_; clear hK K
    refine wl_ck rfl (fun K hK => ?_); go_simp; refine ⟨_, _, ⟨rfl, rfl⟩, hK _ _ ⟨_, isWidth_any n true (Lib.hid hr.out.symm) _, ?_⟩⟩; clear hK K; rintro e w7 ⟨rfl, hb1⟩; refine ⟨_, rfl, ?_⟩; simp only [put_lit, List.set_cons_zero, List.set_cons_succ]
    replace hp14 := below_look hb1 hp14; replace hp16 := below_look hb1 hp16; replace i1 := i1.below hb1; replace i2 := i2.below hb1; replace hb := hb.trans (hb1.mono hb.size); clear hb1
    refine wl_k rfl (fun K hK => ?_); go_simp; refine hK _ ?_; clear hK K
    refine wl_k rfl (fun K hK => ?_); go_simp; refine hK _ ?_; clear hK K
    refine wl_k rfl (fun K hK => ?_); go_simp; refine hK _ ?_; clear hK K
    refine wl_ck rfl (fun K hK => ?_); go_simp; refine ⟨_, _, ⟨rfl, rfl⟩, hK _ _ ⟨_, isOpI_any op true (Lib.hid ho.out.symm) _, ?_⟩⟩; clear hK K; rintro e w8 ⟨rfl, hb1⟩; refine ⟨_, rfl, ?_⟩; simp only [put_lit, List.set_cons_zero, List.set_cons_succ]
    replace hp14 := below_look hb1 hp14; replace hp16 := below_look hb1 hp16; replace i1 := i1.below hb1; replace i2 := i2.below hb1; replace hb := hb.trans (hb1.mono hb.size); clear hb1
    refine wl_k rfl (fun K hK => ?_); go_simp; refine hK _ ?_; clear hK K
    refine wl_k rfl (fun K hK => ?_); go_simp; refine hK _ ?_; clear hK K
    refine wl_k rfl (fun K hK => ?_); go_simp; refine hK _ ?_; clear hK K
    refine wl_k rfl (fun K hK => ?_); go_simp; refine hK _ ?_; clear hK K
    refine wl_ck rfl (fun K hK => ?_); go_simp; refine ⟨_, _, ⟨rfl, rfl⟩, hK _ _ ⟨_, isModeI_any md true (Lib.hid hm.out.symm) _, ?_⟩⟩; clear hK K; rintro e w9 ⟨rfl, hb1⟩; refine ⟨_, rfl, ?_⟩; simp only [put_lit, List.set_cons_zero, List.set_cons_succ]
    replace hp14 := below_look hb1 hp14; replace hp16 := below_look hb1 hp16; replace i1 := i1.below hb1; replace i2 := i2.below hb1; replace hb := hb.trans (hb1.mono hb.size); clear hb1
    go_upto_region 8 with (fail)
    replace i1 := i1.below (Below.refl _ _).drew
    replace i2 := i2.below (Below.refl _ _).drew
    replace hb := hb.drew
    have gp16 := hp16
    refine wp_region_held_drew (S := Kept [] w9) mixed (Kept.drew [] w9) (fun hS => ?_)
    refine ha_val (i := 0) rfl (by kernel_rfl) (by kernel_rfl) (by kernel_rfl) (fun _ _ _ h => h) hS rfl (fun w' hw' => ex_row rfl (rowIv (hw'.look hp14 (by simp <;> omega)))) ?_; try simp only [put_lit, List.set_cons_zero, List.set_cons_succ]
    refine ha_k (i := 1) rfl (by kernel_rfl) (by kernel_rfl) (by kernel_rfl) (fun _ _ _ _ h => h) hS rfl (fun K hK => ?_); go_simp; refine hK _ ?_; clear hK K; try simp only [put_lit, List.set_cons_zero, List.set_cons_succ]
    refine ha_k (i := 2) rfl (by kernel_rfl) (by kernel_rfl) (by kernel_rfl) (fun _ _ _ _ h => h) hS rfl (fun K hK => ?_); go_simp; refine hK _ ?_; clear hK K; try simp only [put_lit, List.set_cons_zero, List.set_cons_succ]
    refine ha_call (i := 3) (by kernel_rfl) rfl rfl (fun K hK => ?_); go_simp; refine ⟨_, _, ⟨rfl, rfl⟩, hK _ _ ⟨_, withinI_any x n s A1 c1 n1 n2 _ i1 (by omega) false HR1, ?_⟩⟩; clear hK K; rintro e w10 ⟨rfl, hb1⟩; refine ⟨_, rfl, hS.below hb1, ?_⟩; replace hS := hS.below hb1; replace hp14 := below_look hb1 hp14; replace hp16 := below_look hb1 hp16; replace i1 := i1.below hb1; replace i2 := i2.below hb1; replace hb := hb.trans (hb1.mono hb.size); clear hb1; try simp only [put_lit, List.set_cons_zero, List.set_cons_succ]
    refine ha_k (i := 4) rfl (by kernel_rfl) (by kernel_rfl) (by kernel_rfl) (fun _ _ _ _ h => h) hS rfl (fun K hK => ?_); go_simp; refine hK _ ?_; clear hK K; try simp only [put_lit, List.set_cons_zero, List.set_cons_succ]
    refine ha_k (i := 5) rfl (by kernel_rfl) (by kernel_rfl) (by kernel_rfl) (fun _ _ _ _ h => h) hS rfl (fun K hK => ?_); go_simp; refine hK _ ?_; clear hK K; try simp only [put_lit, List.set_cons_zero, List.set_cons_succ]
    refine ha_skip (i := 6) rfl (by kernel_rfl) (by kernel_rfl) (by kernel_rfl) (fun _ _ _ h => h) hS rfl ?_; simp only [List.getElem_toArray, List.getElem_cons_succ, List.getElem_cons_zero, put_lit, List.set_cons_zero, List.set_cons_succ]
    refine ha_skip (i := 7) rfl (by kernel_rfl) (by kernel_rfl) (by kernel_rfl) (fun _ _ _ h => h) hS rfl ?_; simp only [List.getElem_toArray, List.getElem_cons_succ, List.getElem_cons_zero, put_lit, List.set_cons_zero, List.set_cons_succ]
    refine ha_skip (i := 8) rfl (by kernel_rfl) (by kernel_rfl) (by kernel_rfl) (fun _ _ _ h => h) hS rfl ?_; simp only [List.getElem_toArray, List.getElem_cons_succ, List.getElem_cons_zero, put_lit, List.set_cons_zero, List.set_cons_succ]
    refine ha_skip (i := 9) rfl (by kernel_rfl) (by kernel_rfl) (by kernel_rfl) (fun _ _ _ h => h) hS rfl ?_; simp only [List.getElem_toArray, List.getElem_cons_succ, List.getElem_cons_zero, put_lit, List.set_cons_zero, List.set_cons_succ]
    refine ha_skip (i := 10) rfl (by kernel_rfl) (by kernel_rfl) (by kernel_rfl) (fun _ _ _ h => h) hS rfl ?_; simp only [List.getElem_toArray, List.getElem_cons_succ, List.getElem_cons_zero, put_lit, List.set_cons_zero, List.set_cons_succ]
    refine ha_k (i := 11) rfl (by kernel_rfl) (by kernel_rfl) (by kernel_rfl) (fun _ _ _ _ h => h) hS rfl (fun K hK => ?_); go_simp; refine hK _ ?_; clear hK K; try simp only [put_lit, List.set_cons_zero, List.set_cons_succ]
    refine ha_k (i := 12) rfl (by kernel_rfl) (by kernel_rfl) (by kernel_rfl) (fun _ _ _ _ h => h) hS rfl (fun K hK => ?_); go_simp; refine hK _ ?_; clear hK K; try simp only [put_lit, List.set_cons_zero, List.set_cons_succ]
    refine ha_skip (i := 13) rfl (by kernel_rfl) (by kernel_rfl) (by kernel_rfl) (fun _ _ _ h => h) hS rfl ?_; simp only [List.getElem_toArray, List.getElem_cons_succ, List.getElem_cons_zero, put_lit, List.set_cons_zero, List.set_cons_succ]
    refine ha_skip (i := 14) rfl (by kernel_rfl) (by kernel_rfl) (by kernel_rfl) (fun _ _ _ h => h) hS rfl ?_; simp only [List.getElem_toArray, List.getElem_cons_succ, List.getElem_cons_zero, put_lit, List.set_cons_zero, List.set_cons_succ]
    refine ha_skip (i := 15) rfl (by kernel_rfl) (by kernel_rfl) (by kernel_rfl) (fun _ _ _ h => h) hS rfl ?_; simp only [List.getElem_toArray, List.getElem_cons_succ, List.getElem_cons_zero, put_lit, List.set_cons_zero, List.set_cons_succ]
    refine ha_skip (i := 16) rfl (by kernel_rfl) (by kernel_rfl) (by kernel_rfl) (fun _ _ _ h => h) hS rfl ?_; simp only [List.getElem_toArray, List.getElem_cons_succ, List.getElem_cons_zero, put_lit, List.set_cons_zero, List.set_cons_succ]
    refine ha_skip (i := 17) rfl (by kernel_rfl) (by kernel_rfl) (by kernel_rfl) (fun _ _ _ h => h) hS rfl ?_; simp only [List.getElem_toArray, List.getElem_cons_succ, List.getElem_cons_zero, put_lit, List.set_cons_zero, List.set_cons_succ]
    refine ha_skip (i := 18) rfl (by kernel_rfl) (by kernel_rfl) (by kernel_rfl) (fun _ _ _ h => h) hS rfl ?_; simp only [List.getElem_toArray, List.getElem_cons_succ, List.getElem_cons_zero, put_lit, List.set_cons_zero, List.set_cons_succ]
    refine ha_skip (i := 19) rfl (by kernel_rfl) (by kernel_rfl) (by kernel_rfl) (fun _ _ _ h => h) hS rfl ?_; simp only [List.getElem_toArray, List.getElem_cons_succ, List.getElem_cons_zero, put_lit, List.set_cons_zero, List.set_cons_succ]
    refine ha_skip (i := 20) rfl (by kernel_rfl) (by kernel_rfl) (by kernel_rfl) (fun _ _ _ h => h) hS rfl ?_; simp only [List.getElem_toArray, List.getElem_cons_succ, List.getElem_cons_zero, put_lit, List.set_cons_zero, List.set_cons_succ]
    refine ha_skip (i := 21) rfl (by kernel_rfl) (by kernel_rfl) (by kernel_rfl) (fun _ _ _ h => h) hS rfl ?_; simp only [List.getElem_toArray, List.getElem_cons_succ, List.getElem_cons_zero, put_lit, List.set_cons_zero, List.set_cons_succ]
    refine ha_skip (i := 22) rfl (by kernel_rfl) (by kernel_rfl) (by kernel_rfl) (fun _ _ _ h => h) hS rfl ?_; simp only [List.getElem_toArray, List.getElem_cons_succ, List.getElem_cons_zero, put_lit, List.set_cons_zero, List.set_cons_succ]
    refine ha_skip (i := 23) rfl (by kernel_rfl) (by kernel_rfl) (by kernel_rfl) (fun _ _ _ h => h) hS rfl ?_; simp only [List.getElem_toArray, List.getElem_cons_succ, List.getElem_cons_zero, put_lit, List.set_cons_zero, List.set_cons_succ]
    refine ha_skip (i := 24) rfl (by kernel_rfl) (by kernel_rfl) (by kernel_rfl) (fun _ _ _ h => h) hS rfl ?_; simp only [List.getElem_toArray, List.getElem_cons_succ, List.getElem_cons_zero, put_lit, List.set_cons_zero, List.set_cons_succ]
    refine ha_skip (i := 25) rfl (by kernel_rfl) (by kernel_rfl) (by kernel_rfl) (fun _ _ _ h => h) hS rfl ?_; simp only [List.getElem_toArray, List.getElem_cons_succ, List.getElem_cons_zero, put_lit, List.set_cons_zero, List.set_cons_succ]
    refine ha_k (i := 26) rfl (by kernel_rfl) (by kernel_rfl) (by kernel_rfl) (fun _ _ _ _ h => h) hS rfl (fun K hK => ?_); go_simp; refine hK _ ?_; clear hK K; try simp only [put_lit, List.set_cons_zero, List.set_cons_succ]
    refine wpAnyH_done (by kernel_rfl) ?_ _
    go_wp2_with fail
    exact bodyPost_ret (results_tmp2 rfl _ _ _) rfl ⟨rfl, hb⟩
set_option maxHeartbeats 4000000 in
set_option maxRecDepth 100000 in
theorem DoI_range2 (op a b md : ByteArray) (n : Int) (s : Bool) (x y : Int) (hx : rdm a = some x) (hy : rdm b = some y) (hr : Hid (isRight n = true)) (ho : Hid (isOpL op.data.toList = true)) (hm : Hid (isModeL md.data.toList = true)) (HR1 : Hid (hasW n.toNat s x = true)) (HR2 : Hid (hasW n.toNat s y = false)) (s1 s2 : Bool) (l1 : (op.toList == [60, 60]) = s1) (l2 : (op.toList == [62, 62]) = s2) (w : World) :
    Calls Try.prog 23 #[.string op, .string a, .string b, .int .i64 n, .bool s, .string md] w fun e w' => e = .returned (.tuple #[.string ⟨#[]⟩, .int .i64 1]) ∧ Below w.heap.size w w' := by
  have nx : nl x.natAbs ≤ 5 := by have := rdm_nl (m := a); rw [hx] at this; exact this
  have ny : nl y.natAbs ≤ 5 := by have := rdm_nl (m := b); rw [hy] at this; exact this
  obtain ⟨k0, hk0, k1, k2, k3⟩ := right_bits hr.out
  have n1 : 1 ≤ n := by omega
  have n2 : n ≤ 64 := by omega
  have hwr : IntKind.i64.wrap (n - 1) = n - 1 := IntWalk.i64_in _ (by omega)
  clear hk0 k1 k2 k3
  have R1 := Lib.hid (ReadI_any a)
  have R2 := Lib.hid (ReadI_any b)
  rw [hx] at R1
  rw [hy] at R2
  simp only [Option.getD_some, Option.isSome_some] at R1 R2
  clear hx hy
  have hcs : s1 = true ∨ (s1 = false ∧ s2 = true) ∨ (s1 = false ∧ s2 = false) := by cases s1 <;> cases s2 <;> simp
  rcases hcs with rfl | ⟨rfl, rfl⟩ | ⟨rfl, rfl⟩
  all_goals
    go_enter Try.func23, Try.ntmps23
    go_upto_region 1 with (fail)
    have hb := Below.refl w.heap.size w
    apply wp_region_lit
    refine wl_k rfl (fun K hK => ?_); go_simp; refine hK _ ?_; clear hK K
    refine wl_ck rfl (fun K hK => ?_); go_simp; refine ⟨_, _, ⟨rfl, rfl⟩, hK _ _ ⟨_, R1.out _, ?_⟩⟩; clear hK K; rintro e w1 ⟨A1, c1, rfl, i1, hb1⟩; refine ⟨_, rfl, ?_⟩; simp only [put_lit, List.set_cons_zero, List.set_cons_succ]
    replace hb := hb.trans (hb1.mono hb.size); clear hb1
    refine wl_k rfl (fun K hK => ?_); go_simp; refine hK _ ?_; clear hK K
    refine wl_k rfl (fun K hK => ?_); go_simp; refine hK _ ?_; clear hK K
    refine wl_k rfl (fun K hK => ?_); go_simp; refine hK _ ?_; clear hK K
    (have lsp14 := hb.size; (with_reducible apply wl_new84); intro w2 p14 hbn hlp14 hp14; replace i1 := i1.below hbn; replace hb := hb.trans (hbn.mono hb.size); clear hbn)
    ((with_reducible apply wl_putI); exact rfl; exact rfl; exact hp14; intro w3 hbx hk hq hi; replace i1 := hi _ _ _ i1; replace hb := hbx _ _ (by omega) hb; clear hp14; have hp14 := hq; clear hbx hk hq hi)
    go_upto_region 2 with (fail)
    apply wp_region_lit
    refine wl_k rfl (fun K hK => ?_); go_simp; refine hK _ ?_; clear hK K
    refine wl_ck rfl (fun K hK => ?_); go_simp; refine ⟨_, _, ⟨rfl, rfl⟩, hK _ _ ⟨_, R2.out _, ?_⟩⟩; clear hK K; rintro e w4 ⟨A2, c2, rfl, i2, hb1⟩; refine ⟨_, rfl, ?_⟩; simp only [put_lit, List.set_cons_zero, List.set_cons_succ]
    replace hp14 := below_look hb1 hp14; replace i1 := i1.below hb1; replace hb := hb.trans (hb1.mono hb.size); clear hb1
    refine wl_k rfl (fun K hK => ?_); go_simp; refine hK _ ?_; clear hK K
    refine wl_k rfl (fun K hK => ?_); go_simp; refine hK _ ?_; clear hK K
    refine wl_k rfl (fun K hK => ?_); go_simp; refine hK _ ?_; clear hK K
    (have lthp14p16 := heap_lt hp14; have lsp16 := hb.size; (with_reducible apply wl_new84); intro w5 p16 hbn hlp16 hp16; replace hp14 := below_look hbn hp14; replace i1 := i1.below hbn; replace i2 := i2.below hbn; replace hb := hb.trans (hbn.mono hb.size); clear hbn)
    ((with_reducible apply wl_putI); exact rfl; exact rfl; exact hp16; intro w6 hbx hk hq hi; replace hp14 := hk _ _ (by omega) hp14; replace i1 := hi _ _ _ i1; replace i2 := hi _ _ _ i2; replace hb := hbx _ _ (by omega) hb; clear hp16; have hp16 := hq; clear hbx hk hq hi)
    go_upto_region 5 with (fail)
    apply wp_region_lit
    refine wl_k rfl (fun K hK => ?_); go_simp; refine hK _ ?_; clear hK K
    refine wl_ck rfl (fun K hK => ?_); go_simp; refine ⟨_, _, ⟨rfl, rfl⟩, hK _ _ ⟨_, isWidth_any n true (Lib.hid hr.out.symm) _, ?_⟩⟩; clear hK K; rintro e w7 ⟨rfl, hb1⟩; refine ⟨_, rfl, ?_⟩; simp only [put_lit, List.set_cons_zero, List.set_cons_succ]
    replace hp14 := below_look hb1 hp14; replace hp16 := below_look hb1 hp16; replace i1 := i1.below hb1; replace i2 := i2.below hb1; replace hb := hb.trans (hb1.mono hb.size); clear hb1
    refine wl_k rfl (fun K hK => ?_); go_simp; refine hK _ ?_; clear hK K
    refine wl_k rfl (fun K hK => ?_); go_simp; refine hK _ ?_; clear hK K
    refine wl_k rfl (fun K hK => ?_); go_simp; refine hK _ ?_; clear hK K
    refine wl_ck rfl (fun K hK => ?_); go_simp; refine ⟨_, _, ⟨rfl, rfl⟩, hK _ _ ⟨_, isOpI_any op true (Lib.hid ho.out.symm) _, ?_⟩⟩; clear hK K; rintro e w8 ⟨rfl, hb1⟩; refine ⟨_, rfl, ?_⟩; simp only [put_lit, List.set_cons_zero, List.set_cons_succ]
    replace hp14 := below_look hb1 hp14; replace hp16 := below_look hb1 hp16; replace i1 := i1.below hb1; replace i2 := i2.below hb1; replace hb := hb.trans (hb1.mono hb.size); clear hb1
    refine wl_k rfl (fun K hK => ?_); go_simp; refine hK _ ?_; clear hK K
    refine wl_k rfl (fun K hK => ?_); go_simp; refine hK _ ?_; clear hK K
    refine wl_k rfl (fun K hK => ?_); go_simp; refine hK _ ?_; clear hK K
    refine wl_k rfl (fun K hK => ?_); go_simp; refine hK _ ?_; clear hK K
    refine wl_ck rfl (fun K hK => ?_); go_simp; refine ⟨_, _, ⟨rfl, rfl⟩, hK _ _ ⟨_, isModeI_any md true (Lib.hid hm.out.symm) _, ?_⟩⟩; clear hK K; rintro e w9 ⟨rfl, hb1⟩; refine ⟨_, rfl, ?_⟩; simp only [put_lit, List.set_cons_zero, List.set_cons_succ]
    replace hp14 := below_look hb1 hp14; replace hp16 := below_look hb1 hp16; replace i1 := i1.below hb1; replace i2 := i2.below hb1; replace hb := hb.trans (hb1.mono hb.size); clear hb1
    go_upto_region 8 with (fail)
    replace i1 := i1.below (Below.refl _ _).drew
    replace i2 := i2.below (Below.refl _ _).drew
    replace hb := hb.drew
    have gp16 := hp16
    refine wp_region_held_drew (S := Kept [] w9) mixed (Kept.drew [] w9) (fun hS => ?_)
    refine ha_val (i := 0) rfl (by kernel_rfl) (by kernel_rfl) (by kernel_rfl) (fun _ _ _ h => h) hS rfl (fun w' hw' => ex_row rfl (rowIv (hw'.look hp14 (by simp <;> omega)))) ?_; try simp only [put_lit, List.set_cons_zero, List.set_cons_succ]
    refine ha_k (i := 1) rfl (by kernel_rfl) (by kernel_rfl) (by kernel_rfl) (fun _ _ _ _ h => h) hS rfl (fun K hK => ?_); go_simp; refine hK _ ?_; clear hK K; try simp only [put_lit, List.set_cons_zero, List.set_cons_succ]
    refine ha_k (i := 2) rfl (by kernel_rfl) (by kernel_rfl) (by kernel_rfl) (fun _ _ _ _ h => h) hS rfl (fun K hK => ?_); go_simp; refine hK _ ?_; clear hK K; try simp only [put_lit, List.set_cons_zero, List.set_cons_succ]
    refine ha_call (i := 3) (by kernel_rfl) rfl rfl (fun K hK => ?_); go_simp; refine ⟨_, _, ⟨rfl, rfl⟩, hK _ _ ⟨_, withinI_any x n s A1 c1 n1 n2 _ i1 (by omega) true HR1, ?_⟩⟩; clear hK K; rintro e w10 ⟨rfl, hb1⟩; refine ⟨_, rfl, hS.below hb1, ?_⟩; replace hS := hS.below hb1; replace hp14 := below_look hb1 hp14; replace hp16 := below_look hb1 hp16; replace i1 := i1.below hb1; replace i2 := i2.below hb1; replace hb := hb.trans (hb1.mono hb.size); clear hb1; try simp only [put_lit, List.set_cons_zero, List.set_cons_succ]
    refine ha_k (i := 4) rfl (by kernel_rfl) (by kernel_rfl) (by kernel_rfl) (fun _ _ _ _ h => h) hS rfl (fun K hK => ?_); go_simp; refine hK _ ?_; clear hK K; try simp only [put_lit, List.set_cons_zero, List.set_cons_succ]
    refine ha_k (i := 5) rfl (by kernel_rfl) (by kernel_rfl) (by kernel_rfl) (fun _ _ _ _ h => h) hS rfl (fun K hK => ?_); go_simp; refine hK _ ?_; clear hK K; try simp only [put_lit, List.set_cons_zero, List.set_cons_succ]
    refine ha_val (i := 6) rfl (by kernel_rfl) (by kernel_rfl) (by kernel_rfl) (fun _ _ _ h => h) hS rfl (fun w' hw' => ex_row rfl (rowIv (hw'.look gp16 (by simp <;> omega)))) ?_; try simp only [put_lit, List.set_cons_zero, List.set_cons_succ]
    refine ha_k (i := 7) rfl (by kernel_rfl) (by kernel_rfl) (by kernel_rfl) (fun _ _ _ _ h => h) hS rfl (fun K hK => ?_); go_simp; refine hK _ ?_; clear hK K; try simp only [put_lit, List.set_cons_zero, List.set_cons_succ]
    refine ha_k (i := 8) rfl (by kernel_rfl) (by kernel_rfl) (by kernel_rfl) (fun _ _ _ _ h => h) hS rfl (fun K hK => ?_); go_simp; refine hK _ ?_; clear hK K; try simp only [put_lit, List.set_cons_zero, List.set_cons_succ]
    refine ha_call (i := 9) (by kernel_rfl) rfl rfl (fun K hK => ?_); go_simp; refine ⟨_, _, ⟨rfl, rfl⟩, hK _ _ ⟨_, withinI_any y n s A2 c2 n1 n2 _ i2 (by omega) false HR2, ?_⟩⟩; clear hK K; rintro e w11 ⟨rfl, hb1⟩; refine ⟨_, rfl, hS.below hb1, ?_⟩; replace hS := hS.below hb1; replace hp14 := below_look hb1 hp14; replace hp16 := below_look hb1 hp16; replace i1 := i1.below hb1; replace i2 := i2.below hb1; replace hb := hb.trans (hb1.mono hb.size); clear hb1; try simp only [put_lit, List.set_cons_zero, List.set_cons_succ]
    refine ha_k (i := 10) rfl (by kernel_rfl) (by kernel_rfl) (by kernel_rfl) (fun _ _ _ _ h => h) hS rfl (fun K hK => ?_); go_simp; refine hK _ ?_; clear hK K; try simp only [put_lit, List.set_cons_zero, List.set_cons_succ]
    refine ha_k (i := 11) rfl (by kernel_rfl) (by kernel_rfl) (by kernel_rfl) (fun _ _ _ _ h => h) hS rfl (fun K hK => ?_); go_simp; refine hK _ ?_; clear hK K; try simp only [put_lit, List.set_cons_zero, List.set_cons_succ]
    refine ha_k (i := 12) rfl (by kernel_rfl) (by kernel_rfl) (by kernel_rfl) (fun _ _ _ _ h => h) hS rfl (fun K hK => ?_); go_simp; refine hK _ ?_; clear hK K; try simp only [put_lit, List.set_cons_zero, List.set_cons_succ]
    refine ha_skip (i := 13) rfl (by kernel_rfl) (by kernel_rfl) (by kernel_rfl) (fun _ _ _ h => h) hS rfl ?_; simp only [List.getElem_toArray, List.getElem_cons_succ, List.getElem_cons_zero, put_lit, List.set_cons_zero, List.set_cons_succ]
    refine ha_skip (i := 14) rfl (by kernel_rfl) (by kernel_rfl) (by kernel_rfl) (fun _ _ _ h => h) hS rfl ?_; simp only [List.getElem_toArray, List.getElem_cons_succ, List.getElem_cons_zero, put_lit, List.set_cons_zero, List.set_cons_succ]
    refine ha_skip (i := 15) rfl (by kernel_rfl) (by kernel_rfl) (by kernel_rfl) (fun _ _ _ h => h) hS rfl ?_; simp only [List.getElem_toArray, List.getElem_cons_succ, List.getElem_cons_zero, put_lit, List.set_cons_zero, List.set_cons_succ]
    refine ha_skip (i := 16) rfl (by kernel_rfl) (by kernel_rfl) (by kernel_rfl) (fun _ _ _ h => h) hS rfl ?_; simp only [List.getElem_toArray, List.getElem_cons_succ, List.getElem_cons_zero, put_lit, List.set_cons_zero, List.set_cons_succ]
    refine ha_skip (i := 17) rfl (by kernel_rfl) (by kernel_rfl) (by kernel_rfl) (fun _ _ _ h => h) hS rfl ?_; simp only [List.getElem_toArray, List.getElem_cons_succ, List.getElem_cons_zero, put_lit, List.set_cons_zero, List.set_cons_succ]
    refine ha_skip (i := 18) rfl (by kernel_rfl) (by kernel_rfl) (by kernel_rfl) (fun _ _ _ h => h) hS rfl ?_; simp only [List.getElem_toArray, List.getElem_cons_succ, List.getElem_cons_zero, put_lit, List.set_cons_zero, List.set_cons_succ]
    refine ha_skip (i := 19) rfl (by kernel_rfl) (by kernel_rfl) (by kernel_rfl) (fun _ _ _ h => h) hS rfl ?_; simp only [List.getElem_toArray, List.getElem_cons_succ, List.getElem_cons_zero, put_lit, List.set_cons_zero, List.set_cons_succ]
    refine ha_skip (i := 20) rfl (by kernel_rfl) (by kernel_rfl) (by kernel_rfl) (fun _ _ _ h => h) hS rfl ?_; simp only [List.getElem_toArray, List.getElem_cons_succ, List.getElem_cons_zero, put_lit, List.set_cons_zero, List.set_cons_succ]
    refine ha_skip (i := 21) rfl (by kernel_rfl) (by kernel_rfl) (by kernel_rfl) (fun _ _ _ h => h) hS rfl ?_; simp only [List.getElem_toArray, List.getElem_cons_succ, List.getElem_cons_zero, put_lit, List.set_cons_zero, List.set_cons_succ]
    refine ha_skip (i := 22) rfl (by kernel_rfl) (by kernel_rfl) (by kernel_rfl) (fun _ _ _ h => h) hS rfl ?_; simp only [List.getElem_toArray, List.getElem_cons_succ, List.getElem_cons_zero, put_lit, List.set_cons_zero, List.set_cons_succ]
    refine ha_skip (i := 23) rfl (by kernel_rfl) (by kernel_rfl) (by kernel_rfl) (fun _ _ _ h => h) hS rfl ?_; simp only [List.getElem_toArray, List.getElem_cons_succ, List.getElem_cons_zero, put_lit, List.set_cons_zero, List.set_cons_succ]
    refine ha_skip (i := 24) rfl (by kernel_rfl) (by kernel_rfl) (by kernel_rfl) (fun _ _ _ h => h) hS rfl ?_; simp only [List.getElem_toArray, List.getElem_cons_succ, List.getElem_cons_zero, put_lit, List.set_cons_zero, List.set_cons_succ]
    refine ha_skip (i := 25) rfl (by kernel_rfl) (by kernel_rfl) (by kernel_rfl) (fun _ _ _ h => h) hS rfl ?_; simp only [List.getElem_toArray, List.getElem_cons_succ, List.getElem_cons_zero, put_lit, List.set_cons_zero, List.set_cons_succ]
    refine ha_k (i := 26) rfl (by kernel_rfl) (by kernel_rfl) (by kernel_rfl) (fun _ _ _ _ h => h) hS rfl (fun K hK => ?_); go_simp; refine hK _ ?_; clear hK K; try simp only [put_lit, List.set_cons_zero, List.set_cons_succ]
    refine wpAnyH_done (by kernel_rfl) ?_ _
    go_wp2_with fail
    exact bodyPost_ret (results_tmp2 rfl _ _ _) rfl ⟨rfl, hb⟩
set_option maxHeartbeats 4000000 in
set_option maxRecDepth 100000 in
theorem DoI_range3 (op a b md : ByteArray) (n : Int) (s : Bool) (x y : Int) (hx : rdm a = some x) (hy : rdm b = some y) (hr : Hid (isRight n = true)) (ho : Hid (isOpL op.data.toList = true)) (hm : Hid (isModeL md.data.toList = true)) (HR1 : Hid (hasW n.toNat s x = true)) (HR2 : Hid (hasW n.toNat s y = true)) (HN : Hid (ng y = true)) (s1 s2 : Bool) (hs : (s1 || s2) = true) (l1 : (op.toList == [60, 60]) = s1) (l2 : (op.toList == [62, 62]) = s2) (w : World) :
    Calls Try.prog 23 #[.string op, .string a, .string b, .int .i64 n, .bool s, .string md] w fun e w' => e = .returned (.tuple #[.string ⟨#[]⟩, .int .i64 1]) ∧ Below w.heap.size w w' := by
  have nx : nl x.natAbs ≤ 5 := by have := rdm_nl (m := a); rw [hx] at this; exact this
  have ny : nl y.natAbs ≤ 5 := by have := rdm_nl (m := b); rw [hy] at this; exact this
  obtain ⟨k0, hk0, k1, k2, k3⟩ := right_bits hr.out
  have n1 : 1 ≤ n := by omega
  have n2 : n ≤ 64 := by omega
  have hwr : IntKind.i64.wrap (n - 1) = n - 1 := IntWalk.i64_in _ (by omega)
  clear hk0 k1 k2 k3
  have R1 := Lib.hid (ReadI_any a)
  have R2 := Lib.hid (ReadI_any b)
  rw [hx] at R1
  rw [hy] at R2
  simp only [Option.getD_some, Option.isSome_some] at R1 R2
  clear hx hy
  have hcs : s1 = true ∨ (s1 = false ∧ s2 = true) := by cases s1 <;> cases s2 <;> simp at hs ⊢
  clear hs
  rcases hcs with rfl | ⟨rfl, rfl⟩
  all_goals
    go_enter Try.func23, Try.ntmps23
    go_upto_region 1 with (fail)
    have hb := Below.refl w.heap.size w
    apply wp_region_lit
    refine wl_k rfl (fun K hK => ?_); go_simp; refine hK _ ?_; clear hK K
    refine wl_ck rfl (fun K hK => ?_); go_simp; refine ⟨_, _, ⟨rfl, rfl⟩, hK _ _ ⟨_, R1.out _, ?_⟩⟩; clear hK K; rintro e w1 ⟨A1, c1, rfl, i1, hb1⟩; refine ⟨_, rfl, ?_⟩; simp only [put_lit, List.set_cons_zero, List.set_cons_succ]
    replace hb := hb.trans (hb1.mono hb.size); clear hb1
    refine wl_k rfl (fun K hK => ?_); go_simp; refine hK _ ?_; clear hK K
    refine wl_k rfl (fun K hK => ?_); go_simp; refine hK _ ?_; clear hK K
    refine wl_k rfl (fun K hK => ?_); go_simp; refine hK _ ?_; clear hK K
    (have lsp14 := hb.size; (with_reducible apply wl_new84); intro w2 p14 hbn hlp14 hp14; replace i1 := i1.below hbn; replace hb := hb.trans (hbn.mono hb.size); clear hbn)
    ((with_reducible apply wl_putI); exact rfl; exact rfl; exact hp14; intro w3 hbx hk hq hi; replace i1 := hi _ _ _ i1; replace hb := hbx _ _ (by omega) hb; clear hp14; have hp14 := hq; clear hbx hk hq hi)
    go_upto_region 2 with (fail)
    apply wp_region_lit
    refine wl_k rfl (fun K hK => ?_); go_simp; refine hK _ ?_; clear hK K
    refine wl_ck rfl (fun K hK => ?_); go_simp; refine ⟨_, _, ⟨rfl, rfl⟩, hK _ _ ⟨_, R2.out _, ?_⟩⟩; clear hK K; rintro e w4 ⟨A2, c2, rfl, i2, hb1⟩; refine ⟨_, rfl, ?_⟩; simp only [put_lit, List.set_cons_zero, List.set_cons_succ]
    replace hp14 := below_look hb1 hp14; replace i1 := i1.below hb1; replace hb := hb.trans (hb1.mono hb.size); clear hb1
    refine wl_k rfl (fun K hK => ?_); go_simp; refine hK _ ?_; clear hK K
    refine wl_k rfl (fun K hK => ?_); go_simp; refine hK _ ?_; clear hK K
    refine wl_k rfl (fun K hK => ?_); go_simp; refine hK _ ?_; clear hK K
    (have lthp14p16 := heap_lt hp14; have lsp16 := hb.size; (with_reducible apply wl_new84); intro w5 p16 hbn hlp16 hp16; replace hp14 := below_look hbn hp14; replace i1 := i1.below hbn; replace i2 := i2.below hbn; replace hb := hb.trans (hbn.mono hb.size); clear hbn)
    ((with_reducible apply wl_putI); exact rfl; exact rfl; exact hp16; intro w6 hbx hk hq hi; replace hp14 := hk _ _ (by omega) hp14; replace i1 := hi _ _ _ i1; replace i2 := hi _ _ _ i2; replace hb := hbx _ _ (by omega) hb; clear hp16; have hp16 := hq; clear hbx hk hq hi)
    go_upto_region 5 with (fail)
    apply wp_region_lit
    refine wl_k rfl (fun K hK => ?_); go_simp; refine hK _ ?_; clear hK K
    refine wl_ck rfl (fun K hK => ?_); go_simp; refine ⟨_, _, ⟨rfl, rfl⟩, hK _ _ ⟨_, isWidth_any n true (Lib.hid hr.out.symm) _, ?_⟩⟩; clear hK K; rintro e w7 ⟨rfl, hb1⟩; refine ⟨_, rfl, ?_⟩; simp only [put_lit, List.set_cons_zero, List.set_cons_succ]
    replace hp14 := below_look hb1 hp14; replace hp16 := below_look hb1 hp16; replace i1 := i1.below hb1; replace i2 := i2.below hb1; replace hb := hb.trans (hb1.mono hb.size); clear hb1
    refine wl_k rfl (fun K hK => ?_); go_simp; refine hK _ ?_; clear hK K
    refine wl_k rfl (fun K hK => ?_); go_simp; refine hK _ ?_; clear hK K
    refine wl_k rfl (fun K hK => ?_); go_simp; refine hK _ ?_; clear hK K
    refine wl_ck rfl (fun K hK => ?_); go_simp; refine ⟨_, _, ⟨rfl, rfl⟩, hK _ _ ⟨_, isOpI_any op true (Lib.hid ho.out.symm) _, ?_⟩⟩; clear hK K; rintro e w8 ⟨rfl, hb1⟩; refine ⟨_, rfl, ?_⟩; simp only [put_lit, List.set_cons_zero, List.set_cons_succ]
    replace hp14 := below_look hb1 hp14; replace hp16 := below_look hb1 hp16; replace i1 := i1.below hb1; replace i2 := i2.below hb1; replace hb := hb.trans (hb1.mono hb.size); clear hb1
    refine wl_k rfl (fun K hK => ?_); go_simp; refine hK _ ?_; clear hK K
    refine wl_k rfl (fun K hK => ?_); go_simp; refine hK _ ?_; clear hK K
    refine wl_k rfl (fun K hK => ?_); go_simp; refine hK _ ?_; clear hK K
    refine wl_k rfl (fun K hK => ?_); go_simp; refine hK _ ?_; clear hK K
    refine wl_ck rfl (fun K hK => ?_); go_simp; refine ⟨_, _, ⟨rfl, rfl⟩, hK _ _ ⟨_, isModeI_any md true (Lib.hid hm.out.symm) _, ?_⟩⟩; clear hK K; rintro e w9 ⟨rfl, hb1⟩; refine ⟨_, rfl, ?_⟩; simp only [put_lit, List.set_cons_zero, List.set_cons_succ]
    replace hp14 := below_look hb1 hp14; replace hp16 := below_look hb1 hp16; replace i1 := i1.below hb1; replace i2 := i2.below hb1; replace hb := hb.trans (hb1.mono hb.size); clear hb1
    go_upto_region 8 with (fail)
    replace i1 := i1.below (Below.refl _ _).drew
    replace i2 := i2.below (Below.refl _ _).drew
    replace hb := hb.drew
    have gp16 := hp16
    refine wp_region_held_drew (S := Kept [] w9) mixed (Kept.drew [] w9) (fun hS => ?_)
    refine ha_val (i := 0) rfl (by kernel_rfl) (by kernel_rfl) (by kernel_rfl) (fun _ _ _ h => h) hS rfl (fun w' hw' => ex_row rfl (rowIv (hw'.look hp14 (by simp <;> omega)))) ?_; try simp only [put_lit, List.set_cons_zero, List.set_cons_succ]
    refine ha_k (i := 1) rfl (by kernel_rfl) (by kernel_rfl) (by kernel_rfl) (fun _ _ _ _ h => h) hS rfl (fun K hK => ?_); go_simp; refine hK _ ?_; clear hK K; try simp only [put_lit, List.set_cons_zero, List.set_cons_succ]
    refine ha_k (i := 2) rfl (by kernel_rfl) (by kernel_rfl) (by kernel_rfl) (fun _ _ _ _ h => h) hS rfl (fun K hK => ?_); go_simp; refine hK _ ?_; clear hK K; try simp only [put_lit, List.set_cons_zero, List.set_cons_succ]
    refine ha_call (i := 3) (by kernel_rfl) rfl rfl (fun K hK => ?_); go_simp; refine ⟨_, _, ⟨rfl, rfl⟩, hK _ _ ⟨_, withinI_any x n s A1 c1 n1 n2 _ i1 (by omega) true HR1, ?_⟩⟩; clear hK K; rintro e w10 ⟨rfl, hb1⟩; refine ⟨_, rfl, hS.below hb1, ?_⟩; replace hS := hS.below hb1; replace hp14 := below_look hb1 hp14; replace hp16 := below_look hb1 hp16; replace i1 := i1.below hb1; replace i2 := i2.below hb1; replace hb := hb.trans (hb1.mono hb.size); clear hb1; try simp only [put_lit, List.set_cons_zero, List.set_cons_succ]
    refine ha_k (i := 4) rfl (by kernel_rfl) (by kernel_rfl) (by kernel_rfl) (fun _ _ _ _ h => h) hS rfl (fun K hK => ?_); go_simp; refine hK _ ?_; clear hK K; try simp only [put_lit, List.set_cons_zero, List.set_cons_succ]
    refine ha_k (i := 5) rfl (by kernel_rfl) (by kernel_rfl) (by kernel_rfl) (fun _ _ _ _ h => h) hS rfl (fun K hK => ?_); go_simp; refine hK _ ?_; clear hK K; try simp only [put_lit, List.set_cons_zero, List.set_cons_succ]
    refine ha_val (i := 6) rfl (by kernel_rfl) (by kernel_rfl) (by kernel_rfl) (fun _ _ _ h => h) hS rfl (fun w' hw' => ex_row rfl (rowIv (hw'.look gp16 (by simp <;> omega)))) ?_; try simp only [put_lit, List.set_cons_zero, List.set_cons_succ]
    refine ha_k (i := 7) rfl (by kernel_rfl) (by kernel_rfl) (by kernel_rfl) (fun _ _ _ _ h => h) hS rfl (fun K hK => ?_); go_simp; refine hK _ ?_; clear hK K; try simp only [put_lit, List.set_cons_zero, List.set_cons_succ]
    refine ha_k (i := 8) rfl (by kernel_rfl) (by kernel_rfl) (by kernel_rfl) (fun _ _ _ _ h => h) hS rfl (fun K hK => ?_); go_simp; refine hK _ ?_; clear hK K; try simp only [put_lit, List.set_cons_zero, List.set_cons_succ]
    refine ha_call (i := 9) (by kernel_rfl) rfl rfl (fun K hK => ?_); go_simp; refine ⟨_, _, ⟨rfl, rfl⟩, hK _ _ ⟨_, withinI_any y n s A2 c2 n1 n2 _ i2 (by omega) true HR2, ?_⟩⟩; clear hK K; rintro e w11 ⟨rfl, hb1⟩; refine ⟨_, rfl, hS.below hb1, ?_⟩; replace hS := hS.below hb1; replace hp14 := below_look hb1 hp14; replace hp16 := below_look hb1 hp16; replace i1 := i1.below hb1; replace i2 := i2.below hb1; replace hb := hb.trans (hb1.mono hb.size); clear hb1; try simp only [put_lit, List.set_cons_zero, List.set_cons_succ]
    refine ha_k (i := 10) rfl (by kernel_rfl) (by kernel_rfl) (by kernel_rfl) (fun _ _ _ _ h => h) hS rfl (fun K hK => ?_); go_simp; refine hK _ ?_; clear hK K; try simp only [put_lit, List.set_cons_zero, List.set_cons_succ]
    refine ha_k (i := 11) rfl (by kernel_rfl) (by kernel_rfl) (by kernel_rfl) (fun _ _ _ _ h => h) hS rfl (fun K hK => ?_); go_simp; refine hK _ ?_; clear hK K; try simp only [put_lit, List.set_cons_zero, List.set_cons_succ]
    refine ha_k (i := 12) rfl (by kernel_rfl) (by kernel_rfl) (by kernel_rfl) (fun _ _ _ _ h => h) hS rfl (fun K hK => ?_); go_simp; refine hK _ ?_; clear hK K; try simp only [put_lit, List.set_cons_zero, List.set_cons_succ]
    have y0 := iv0 gp16
    rw [HN.out] at y0
    refine ha_k (i := 13) rfl (by kernel_rfl) (by kernel_rfl) (by kernel_rfl) (fun _ _ _ _ h => h) hS rfl (fun K hK => ?_); go_simp; refine hK _ ?_; clear hK K; try simp only [put_lit, List.set_cons_zero, List.set_cons_succ]
    refine ha_k (i := 14) rfl (by kernel_rfl) (by kernel_rfl) (by kernel_rfl) (fun _ _ _ _ h => h) hS rfl (fun K hK => ?_); go_simp; refine hK _ ?_; clear hK K; try simp only [put_lit, List.set_cons_zero, List.set_cons_succ]
    refine ha_k (i := 15) rfl (by kernel_rfl) (by kernel_rfl) (by kernel_rfl) (fun _ _ _ _ h => h) hS rfl (fun K hK => ?_); go_simp; refine hK _ ?_; clear hK K; try simp only [put_lit, List.set_cons_zero, List.set_cons_succ]
    refine ha_val (i := 16) rfl (by kernel_rfl) (by kernel_rfl) (by kernel_rfl) (fun _ _ _ h => h) hS rfl (fun w' hw' => ex_one rfl (one4 (hw'.cell y0 (by simp <;> omega)))) ?_; try simp only [put_lit, List.set_cons_zero, List.set_cons_succ]
    refine ha_k (i := 17) rfl (by kernel_rfl) (by kernel_rfl) (by kernel_rfl) (fun _ _ _ _ h => h) hS rfl (fun K hK => ?_); go_simp; refine hK _ ?_; clear hK K; try simp only [put_lit, List.set_cons_zero, List.set_cons_succ]
    refine ha_skip (i := 18) rfl (by kernel_rfl) (by kernel_rfl) (by kernel_rfl) (fun _ _ _ h => h) hS rfl ?_; simp only [List.getElem_toArray, List.getElem_cons_succ, List.getElem_cons_zero, put_lit, List.set_cons_zero, List.set_cons_succ]
    refine ha_skip (i := 19) rfl (by kernel_rfl) (by kernel_rfl) (by kernel_rfl) (fun _ _ _ h => h) hS rfl ?_; simp only [List.getElem_toArray, List.getElem_cons_succ, List.getElem_cons_zero, put_lit, List.set_cons_zero, List.set_cons_succ]
    refine ha_skip (i := 20) rfl (by kernel_rfl) (by kernel_rfl) (by kernel_rfl) (fun _ _ _ h => h) hS rfl ?_; simp only [List.getElem_toArray, List.getElem_cons_succ, List.getElem_cons_zero, put_lit, List.set_cons_zero, List.set_cons_succ]
    refine ha_skip (i := 21) rfl (by kernel_rfl) (by kernel_rfl) (by kernel_rfl) (fun _ _ _ h => h) hS rfl ?_; simp only [List.getElem_toArray, List.getElem_cons_succ, List.getElem_cons_zero, put_lit, List.set_cons_zero, List.set_cons_succ]
    refine ha_skip (i := 22) rfl (by kernel_rfl) (by kernel_rfl) (by kernel_rfl) (fun _ _ _ h => h) hS rfl ?_; simp only [List.getElem_toArray, List.getElem_cons_succ, List.getElem_cons_zero, put_lit, List.set_cons_zero, List.set_cons_succ]
    refine ha_skip (i := 23) rfl (by kernel_rfl) (by kernel_rfl) (by kernel_rfl) (fun _ _ _ h => h) hS rfl ?_; simp only [List.getElem_toArray, List.getElem_cons_succ, List.getElem_cons_zero, put_lit, List.set_cons_zero, List.set_cons_succ]
    refine ha_k (i := 24) rfl (by kernel_rfl) (by kernel_rfl) (by kernel_rfl) (fun _ _ _ _ h => h) hS rfl (fun K hK => ?_); go_simp; refine hK _ ?_; clear hK K; try simp only [put_lit, List.set_cons_zero, List.set_cons_succ]
    refine ha_k (i := 25) rfl (by kernel_rfl) (by kernel_rfl) (by kernel_rfl) (fun _ _ _ _ h => h) hS rfl (fun K hK => ?_); go_simp; refine hK _ ?_; clear hK K; try simp only [put_lit, List.set_cons_zero, List.set_cons_succ]
    refine ha_k (i := 26) rfl (by kernel_rfl) (by kernel_rfl) (by kernel_rfl) (fun _ _ _ _ h => h) hS rfl (fun K hK => ?_); go_simp; refine hK _ ?_; clear hK K; try simp only [put_lit, List.set_cons_zero, List.set_cons_succ]
    refine wpAnyH_done (by kernel_rfl) ?_ _
    go_wp2_with fail
    exact bodyPost_ret (results_tmp2 rfl _ _ _) rfl ⟨rfl, hb⟩
set_option maxHeartbeats 4000000 in
set_option maxRecDepth 100000 in
theorem DoI_range4 (op a b md : ByteArray) (n : Int) (s : Bool) (x y : Int) (hx : rdm a = some x) (hy : rdm b = some y) (hr : Hid (isRight n = true)) (ho : Hid (isOpL op.data.toList = true)) (hm : Hid (isModeL md.data.toList = true)) (HR1 : Hid (hasW n.toNat s x = true)) (HR2 : Hid (hasW n.toNat s y = true)) (HN : Hid (ng y = false)) (C : Int) (HC : Hid (cz y (n - 1) = C)) (hC : 0 < C) (s1 s2 : Bool) (hs : (s1 || s2) = true) (l1 : (op.toList == [60, 60]) = s1) (l2 : (op.toList == [62, 62]) = s2) (w : World) :
    Calls Try.prog 23 #[.string op, .string a, .string b, .int .i64 n, .bool s, .string md] w fun e w' => e = .returned (.tuple #[.string ⟨#[]⟩, .int .i64 1]) ∧ Below w.heap.size w w' := by
  have nx : nl x.natAbs ≤ 5 := by have := rdm_nl (m := a); rw [hx] at this; exact this
  have ny : nl y.natAbs ≤ 5 := by have := rdm_nl (m := b); rw [hy] at this; exact this
  obtain ⟨k0, hk0, k1, k2, k3⟩ := right_bits hr.out
  have n1 : 1 ≤ n := by omega
  have n2 : n ≤ 64 := by omega
  have hwr : IntKind.i64.wrap (n - 1) = n - 1 := IntWalk.i64_in _ (by omega)
  clear hk0 k1 k2 k3
  have R1 := Lib.hid (ReadI_any a)
  have R2 := Lib.hid (ReadI_any b)
  rw [hx] at R1
  rw [hy] at R2
  simp only [Option.getD_some, Option.isSome_some] at R1 R2
  clear hx hy
  have hcs : s1 = true ∨ (s1 = false ∧ s2 = true) := by cases s1 <;> cases s2 <;> simp at hs ⊢
  clear hs
  rcases hcs with rfl | ⟨rfl, rfl⟩
  all_goals
    go_enter Try.func23, Try.ntmps23
    go_upto_region 1 with (fail)
    have hb := Below.refl w.heap.size w
    apply wp_region_lit
    refine wl_k rfl (fun K hK => ?_); go_simp; refine hK _ ?_; clear hK K
    refine wl_ck rfl (fun K hK => ?_); go_simp; refine ⟨_, _, ⟨rfl, rfl⟩, hK _ _ ⟨_, R1.out _, ?_⟩⟩; clear hK K; rintro e w1 ⟨A1, c1, rfl, i1, hb1⟩; refine ⟨_, rfl, ?_⟩; simp only [put_lit, List.set_cons_zero, List.set_cons_succ]
    replace hb := hb.trans (hb1.mono hb.size); clear hb1
    refine wl_k rfl (fun K hK => ?_); go_simp; refine hK _ ?_; clear hK K
    refine wl_k rfl (fun K hK => ?_); go_simp; refine hK _ ?_; clear hK K
    refine wl_k rfl (fun K hK => ?_); go_simp; refine hK _ ?_; clear hK K
    (have lsp14 := hb.size; (with_reducible apply wl_new84); intro w2 p14 hbn hlp14 hp14; replace i1 := i1.below hbn; replace hb := hb.trans (hbn.mono hb.size); clear hbn)
    ((with_reducible apply wl_putI); exact rfl; exact rfl; exact hp14; intro w3 hbx hk hq hi; replace i1 := hi _ _ _ i1; replace hb := hbx _ _ (by omega) hb; clear hp14; have hp14 := hq; clear hbx hk hq hi)
    go_upto_region 2 with (fail)
    apply wp_region_lit
    refine wl_k rfl (fun K hK => ?_); go_simp; refine hK _ ?_; clear hK K
    refine wl_ck rfl (fun K hK => ?_); go_simp; refine ⟨_, _, ⟨rfl, rfl⟩, hK _ _ ⟨_, R2.out _, ?_⟩⟩; clear hK K; rintro e w4 ⟨A2, c2, rfl, i2, hb1⟩; refine ⟨_, rfl, ?_⟩; simp only [put_lit, List.set_cons_zero, List.set_cons_succ]
    replace hp14 := below_look hb1 hp14; replace i1 := i1.below hb1; replace hb := hb.trans (hb1.mono hb.size); clear hb1
    refine wl_k rfl (fun K hK => ?_); go_simp; refine hK _ ?_; clear hK K
    refine wl_k rfl (fun K hK => ?_); go_simp; refine hK _ ?_; clear hK K
    refine wl_k rfl (fun K hK => ?_); go_simp; refine hK _ ?_; clear hK K
    (have lthp14p16 := heap_lt hp14; have lsp16 := hb.size; (with_reducible apply wl_new84); intro w5 p16 hbn hlp16 hp16; replace hp14 := below_look hbn hp14; replace i1 := i1.below hbn; replace i2 := i2.below hbn; replace hb := hb.trans (hbn.mono hb.size); clear hbn)
    ((with_reducible apply wl_putI); exact rfl; exact rfl; exact hp16; intro w6 hbx hk hq hi; replace hp14 := hk _ _ (by omega) hp14; replace i1 := hi _ _ _ i1; replace i2 := hi _ _ _ i2; replace hb := hbx _ _ (by omega) hb; clear hp16; have hp16 := hq; clear hbx hk hq hi)
    go_upto_region 5 with (fail)
    apply wp_region_lit
    refine wl_k rfl (fun K hK => ?_); go_simp; refine hK _ ?_; clear hK K
    refine wl_ck rfl (fun K hK => ?_); go_simp; refine ⟨_, _, ⟨rfl, rfl⟩, hK _ _ ⟨_, isWidth_any n true (Lib.hid hr.out.symm) _, ?_⟩⟩; clear hK K; rintro e w7 ⟨rfl, hb1⟩; refine ⟨_, rfl, ?_⟩; simp only [put_lit, List.set_cons_zero, List.set_cons_succ]
    replace hp14 := below_look hb1 hp14; replace hp16 := below_look hb1 hp16; replace i1 := i1.below hb1; replace i2 := i2.below hb1; replace hb := hb.trans (hb1.mono hb.size); clear hb1
    refine wl_k rfl (fun K hK => ?_); go_simp; refine hK _ ?_; clear hK K
    refine wl_k rfl (fun K hK => ?_); go_simp; refine hK _ ?_; clear hK K
    refine wl_k rfl (fun K hK => ?_); go_simp; refine hK _ ?_; clear hK K
    refine wl_ck rfl (fun K hK => ?_); go_simp; refine ⟨_, _, ⟨rfl, rfl⟩, hK _ _ ⟨_, isOpI_any op true (Lib.hid ho.out.symm) _, ?_⟩⟩; clear hK K; rintro e w8 ⟨rfl, hb1⟩; refine ⟨_, rfl, ?_⟩; simp only [put_lit, List.set_cons_zero, List.set_cons_succ]
    replace hp14 := below_look hb1 hp14; replace hp16 := below_look hb1 hp16; replace i1 := i1.below hb1; replace i2 := i2.below hb1; replace hb := hb.trans (hb1.mono hb.size); clear hb1
    refine wl_k rfl (fun K hK => ?_); go_simp; refine hK _ ?_; clear hK K
    refine wl_k rfl (fun K hK => ?_); go_simp; refine hK _ ?_; clear hK K
    refine wl_k rfl (fun K hK => ?_); go_simp; refine hK _ ?_; clear hK K
    refine wl_k rfl (fun K hK => ?_); go_simp; refine hK _ ?_; clear hK K
    refine wl_ck rfl (fun K hK => ?_); go_simp; refine ⟨_, _, ⟨rfl, rfl⟩, hK _ _ ⟨_, isModeI_any md true (Lib.hid hm.out.symm) _, ?_⟩⟩; clear hK K; rintro e w9 ⟨rfl, hb1⟩; refine ⟨_, rfl, ?_⟩; simp only [put_lit, List.set_cons_zero, List.set_cons_succ]
    replace hp14 := below_look hb1 hp14; replace hp16 := below_look hb1 hp16; replace i1 := i1.below hb1; replace i2 := i2.below hb1; replace hb := hb.trans (hb1.mono hb.size); clear hb1
    go_upto_region 8 with (fail)
    replace i1 := i1.below (Below.refl _ _).drew
    replace i2 := i2.below (Below.refl _ _).drew
    replace hb := hb.drew
    have gp16 := hp16
    refine wp_region_held_drew (S := Kept [] w9) mixed (Kept.drew [] w9) (fun hS => ?_)
    refine ha_val (i := 0) rfl (by kernel_rfl) (by kernel_rfl) (by kernel_rfl) (fun _ _ _ h => h) hS rfl (fun w' hw' => ex_row rfl (rowIv (hw'.look hp14 (by simp <;> omega)))) ?_; try simp only [put_lit, List.set_cons_zero, List.set_cons_succ]
    refine ha_k (i := 1) rfl (by kernel_rfl) (by kernel_rfl) (by kernel_rfl) (fun _ _ _ _ h => h) hS rfl (fun K hK => ?_); go_simp; refine hK _ ?_; clear hK K; try simp only [put_lit, List.set_cons_zero, List.set_cons_succ]
    refine ha_k (i := 2) rfl (by kernel_rfl) (by kernel_rfl) (by kernel_rfl) (fun _ _ _ _ h => h) hS rfl (fun K hK => ?_); go_simp; refine hK _ ?_; clear hK K; try simp only [put_lit, List.set_cons_zero, List.set_cons_succ]
    refine ha_call (i := 3) (by kernel_rfl) rfl rfl (fun K hK => ?_); go_simp; refine ⟨_, _, ⟨rfl, rfl⟩, hK _ _ ⟨_, withinI_any x n s A1 c1 n1 n2 _ i1 (by omega) true HR1, ?_⟩⟩; clear hK K; rintro e w10 ⟨rfl, hb1⟩; refine ⟨_, rfl, hS.below hb1, ?_⟩; replace hS := hS.below hb1; replace hp14 := below_look hb1 hp14; replace hp16 := below_look hb1 hp16; replace i1 := i1.below hb1; replace i2 := i2.below hb1; replace hb := hb.trans (hb1.mono hb.size); clear hb1; try simp only [put_lit, List.set_cons_zero, List.set_cons_succ]
    refine ha_k (i := 4) rfl (by kernel_rfl) (by kernel_rfl) (by kernel_rfl) (fun _ _ _ _ h => h) hS rfl (fun K hK => ?_); go_simp; refine hK _ ?_; clear hK K; try simp only [put_lit, List.set_cons_zero, List.set_cons_succ]
    refine ha_k (i := 5) rfl (by kernel_rfl) (by kernel_rfl) (by kernel_rfl) (fun _ _ _ _ h => h) hS rfl (fun K hK => ?_); go_simp; refine hK _ ?_; clear hK K; try simp only [put_lit, List.set_cons_zero, List.set_cons_succ]
    refine ha_val (i := 6) rfl (by kernel_rfl) (by kernel_rfl) (by kernel_rfl) (fun _ _ _ h => h) hS rfl (fun w' hw' => ex_row rfl (rowIv (hw'.look gp16 (by simp <;> omega)))) ?_; try simp only [put_lit, List.set_cons_zero, List.set_cons_succ]
    refine ha_k (i := 7) rfl (by kernel_rfl) (by kernel_rfl) (by kernel_rfl) (fun _ _ _ _ h => h) hS rfl (fun K hK => ?_); go_simp; refine hK _ ?_; clear hK K; try simp only [put_lit, List.set_cons_zero, List.set_cons_succ]
    refine ha_k (i := 8) rfl (by kernel_rfl) (by kernel_rfl) (by kernel_rfl) (fun _ _ _ _ h => h) hS rfl (fun K hK => ?_); go_simp; refine hK _ ?_; clear hK K; try simp only [put_lit, List.set_cons_zero, List.set_cons_succ]
    refine ha_call (i := 9) (by kernel_rfl) rfl rfl (fun K hK => ?_); go_simp; refine ⟨_, _, ⟨rfl, rfl⟩, hK _ _ ⟨_, withinI_any y n s A2 c2 n1 n2 _ i2 (by omega) true HR2, ?_⟩⟩; clear hK K; rintro e w11 ⟨rfl, hb1⟩; refine ⟨_, rfl, hS.below hb1, ?_⟩; replace hS := hS.below hb1; replace hp14 := below_look hb1 hp14; replace hp16 := below_look hb1 hp16; replace i1 := i1.below hb1; replace i2 := i2.below hb1; replace hb := hb.trans (hb1.mono hb.size); clear hb1; try simp only [put_lit, List.set_cons_zero, List.set_cons_succ]
    refine ha_k (i := 10) rfl (by kernel_rfl) (by kernel_rfl) (by kernel_rfl) (fun _ _ _ _ h => h) hS rfl (fun K hK => ?_); go_simp; refine hK _ ?_; clear hK K; try simp only [put_lit, List.set_cons_zero, List.set_cons_succ]
    refine ha_k (i := 11) rfl (by kernel_rfl) (by kernel_rfl) (by kernel_rfl) (fun _ _ _ _ h => h) hS rfl (fun K hK => ?_); go_simp; refine hK _ ?_; clear hK K; try simp only [put_lit, List.set_cons_zero, List.set_cons_succ]
    refine ha_k (i := 12) rfl (by kernel_rfl) (by kernel_rfl) (by kernel_rfl) (fun _ _ _ _ h => h) hS rfl (fun K hK => ?_); go_simp; refine hK _ ?_; clear hK K; try simp only [put_lit, List.set_cons_zero, List.set_cons_succ]
    have y0 := iv0 gp16
    rw [HN.out] at y0
    refine ha_k (i := 13) rfl (by kernel_rfl) (by kernel_rfl) (by kernel_rfl) (fun _ _ _ _ h => h) hS rfl (fun K hK => ?_); go_simp; refine hK _ ?_; clear hK K; try simp only [put_lit, List.set_cons_zero, List.set_cons_succ]
    refine ha_k (i := 14) rfl (by kernel_rfl) (by kernel_rfl) (by kernel_rfl) (fun _ _ _ _ h => h) hS rfl (fun K hK => ?_); go_simp; refine hK _ ?_; clear hK K; try simp only [put_lit, List.set_cons_zero, List.set_cons_succ]
    refine ha_k (i := 15) rfl (by kernel_rfl) (by kernel_rfl) (by kernel_rfl) (fun _ _ _ _ h => h) hS rfl (fun K hK => ?_); go_simp; refine hK _ ?_; clear hK K; try simp only [put_lit, List.set_cons_zero, List.set_cons_succ]
    refine ha_val (i := 16) rfl (by kernel_rfl) (by kernel_rfl) (by kernel_rfl) (fun _ _ _ h => h) hS rfl (fun w' hw' => ex_one rfl (one4 (hw'.cell y0 (by simp <;> omega)))) ?_; try simp only [put_lit, List.set_cons_zero, List.set_cons_succ]
    refine ha_k (i := 17) rfl (by kernel_rfl) (by kernel_rfl) (by kernel_rfl) (fun _ _ _ _ h => h) hS rfl (fun K hK => ?_); go_simp; refine hK _ ?_; clear hK K; try simp only [put_lit, List.set_cons_zero, List.set_cons_succ]
    refine ha_val (i := 18) rfl (by kernel_rfl) (by kernel_rfl) (by kernel_rfl) (fun _ _ _ h => h) hS rfl (fun w' hw' => ex_row rfl (rowIv (hw'.look gp16 (by simp <;> omega)))) ?_; try simp only [put_lit, List.set_cons_zero, List.set_cons_succ]
    refine ha_k (i := 19) rfl (by kernel_rfl) (by kernel_rfl) (by kernel_rfl) (fun _ _ _ _ h => h) hS rfl (fun K hK => ?_); go_simp; refine hK _ ?_; clear hK K; try simp only [put_lit, List.set_cons_zero, List.set_cons_succ]
    refine ha_k (i := 20) rfl (by kernel_rfl) (by kernel_rfl) (by kernel_rfl) (fun _ _ _ _ h => h) hS rfl (fun K hK => ?_); go_simp; refine hK _ ?_; clear hK K; try simp only [put_lit, List.set_cons_zero, List.set_cons_succ]
    refine ha_call (i := 21) (by kernel_rfl) rfl rfl (fun K hK => ?_); go_simp; refine ⟨_, _, ⟨rfl, rfl⟩, hK _ _ ⟨_, Of_any (n - 1) (by omega) (by omega) _, ?_⟩⟩; clear hK K; rintro e w12 ⟨A3, c3, rfl, i3, hb1⟩; refine ⟨_, rfl, hS.below hb1, ?_⟩; replace hS := hS.below hb1; replace hp14 := below_look hb1 hp14; replace hp16 := below_look hb1 hp16; replace i1 := i1.below hb1; replace i2 := i2.below hb1; replace hb := hb.trans (hb1.mono hb.size); clear hb1; try simp only [put_lit, List.set_cons_zero, List.set_cons_succ]
    refine ha_call (i := 22) (by kernel_rfl) rfl rfl (fun K hK => ?_); go_simp; refine ⟨_, _, ⟨rfl, rfl⟩, hK _ _ ⟨_, CmpI_any y (n - 1) _ _ _ _ _ i2 i3 (by omega), ?_⟩⟩; clear hK K; rintro e w13 ⟨rfl, hb1⟩; refine ⟨_, rfl, hS.below hb1, ?_⟩; replace hS := hS.below hb1; replace hp14 := below_look hb1 hp14; replace hp16 := below_look hb1 hp16; replace i1 := i1.below hb1; replace i2 := i2.below hb1; replace hb := hb.trans (hb1.mono hb.size); clear hb1; try simp only [put_lit, List.set_cons_zero, List.set_cons_succ]
    rw [HC.out]
    refine ha_k (i := 23) rfl (by kernel_rfl) (by kernel_rfl) (by kernel_rfl) (fun _ _ _ _ h => h) hS rfl (fun K hK => ?_); go_simp; refine hK _ ?_; clear hK K; try simp only [put_lit, List.set_cons_zero, List.set_cons_succ]
    refine ha_k (i := 24) rfl (by kernel_rfl) (by kernel_rfl) (by kernel_rfl) (fun _ _ _ _ h => h) hS rfl (fun K hK => ?_); go_simp; refine hK _ ?_; clear hK K; try simp only [put_lit, List.set_cons_zero, List.set_cons_succ]
    refine ha_k (i := 25) rfl (by kernel_rfl) (by kernel_rfl) (by kernel_rfl) (fun _ _ _ _ h => h) hS rfl (fun K hK => ?_); go_simp; refine hK _ ?_; clear hK K; try simp only [put_lit, List.set_cons_zero, List.set_cons_succ]
    refine ha_k (i := 26) rfl (by kernel_rfl) (by kernel_rfl) (by kernel_rfl) (fun _ _ _ _ h => h) hS rfl (fun K hK => ?_); go_simp; refine hK _ ?_; clear hK K; try simp only [put_lit, List.set_cons_zero, List.set_cons_succ]
    refine wpAnyH_done (by kernel_rfl) ?_ _
    go_wp2_with fail
    exact bodyPost_ret (results_tmp2 rfl _ _ _) rfl ⟨rfl, hb⟩
set_option maxHeartbeats 4000000 in
set_option maxRecDepth 100000 in
theorem DoI_zero (op a b md : ByteArray) (n : Int) (s : Bool) (x : Int) (hx : rdm a = some x) (hy : rdm b = some 0) (hr : Hid (isRight n = true)) (ho : Hid (isOpL op.data.toList = true)) (hm : Hid (isModeL md.data.toList = true)) (HR1 : Hid (hasW n.toNat s x = true)) (HR2 : Hid (hasW n.toNat s 0 = true)) (s1 s2 : Bool) (hs : (s1 || s2) = true) (l1 : (op.toList == [60, 60]) = false) (l2 : (op.toList == [62, 62]) = false) (l3 : (op.toList == [47]) = s1) (l4 : (op.toList == [37]) = s2) (w : World) :
    Calls Try.prog 23 #[.string op, .string a, .string b, .int .i64 n, .bool s, .string md] w fun e w' => e = .returned (.tuple #[.string ⟨#[]⟩, .int .i64 70]) ∧ Below w.heap.size w w' := by
  obtain ⟨y, hy0⟩ : ∃ y : Int, y = 0 := ⟨_, rfl⟩
  rw [← hy0] at hy HR2
  have nx : nl x.natAbs ≤ 5 := by have := rdm_nl (m := a); rw [hx] at this; exact this
  have ny : nl y.natAbs ≤ 5 := by have := rdm_nl (m := b); rw [hy] at this; exact this
  obtain ⟨k0, hk0, k1, k2, k3⟩ := right_bits hr.out
  have n1 : 1 ≤ n := by omega
  have n2 : n ≤ 64 := by omega
  have hwr : IntKind.i64.wrap (n - 1) = n - 1 := IntWalk.i64_in _ (by omega)
  clear hk0 k1 k2 k3
  have R1 := Lib.hid (ReadI_any a)
  have R2 := Lib.hid (ReadI_any b)
  rw [hx] at R1
  rw [hy] at R2
  simp only [Option.getD_some, Option.isSome_some] at R1 R2
  clear hx hy
  have E0 := Lib.hid (show nl y.natAbs = 0 by rw [hy0]; exact nl_zero)
  clear hy0
  have hcs : s1 = true ∨ (s1 = false ∧ s2 = true) := by cases s1 <;> cases s2 <;> simp at hs ⊢
  clear hs
  rcases hcs with rfl | ⟨rfl, rfl⟩
  all_goals
    go_enter Try.func23, Try.ntmps23
    go_upto_region 1 with (fail)
    have hb := Below.refl w.heap.size w
    apply wp_region_lit
    refine wl_k rfl (fun K hK => ?_); go_simp; refine hK _ ?_; clear hK K
    refine wl_ck rfl (fun K hK => ?_); go_simp; refine ⟨_, _, ⟨rfl, rfl⟩, hK _ _ ⟨_, R1.out _, ?_⟩⟩; clear hK K; rintro e w1 ⟨A1, c1, rfl, i1, hb1⟩; refine ⟨_, rfl, ?_⟩; simp only [put_lit, List.set_cons_zero, List.set_cons_succ]
    replace hb := hb.trans (hb1.mono hb.size); clear hb1
    refine wl_k rfl (fun K hK => ?_); go_simp; refine hK _ ?_; clear hK K
    refine wl_k rfl (fun K hK => ?_); go_simp; refine hK _ ?_; clear hK K
    refine wl_k rfl (fun K hK => ?_); go_simp; refine hK _ ?_; clear hK K
    (have lsp14 := hb.size; (with_reducible apply wl_new84); intro w2 p14 hbn hlp14 hp14; replace i1 := i1.below hbn; replace hb := hb.trans (hbn.mono hb.size); clear hbn)
    ((with_reducible apply wl_putI); exact rfl; exact rfl; exact hp14; intro w3 hbx hk hq hi; replace i1 := hi _ _ _ i1; replace hb := hbx _ _ (by omega) hb; clear hp14; have hp14 := hq; clear hbx hk hq hi)
    go_upto_region 2 with (fail)
    apply wp_region_lit
    refine wl_k rfl (fun K hK => ?_); go_simp; refine hK _ ?_; clear hK K
    refine wl_ck rfl (fun K hK => ?_); go_simp; refine ⟨_, _, ⟨rfl, rfl⟩, hK _ _ ⟨_, R2.out _, ?_⟩⟩; clear hK K; rintro e w4 ⟨A2, c2, rfl, i2, hb1⟩; refine ⟨_, rfl, ?_⟩; simp only [put_lit, List.set_cons_zero, List.set_cons_succ]
    replace hp14 := below_look hb1 hp14; replace i1 := i1.below hb1; replace hb := hb.trans (hb1.mono hb.size); clear hb1
    refine wl_k rfl (fun K hK => ?_); go_simp; refine hK _ ?_; clear hK K
    refine wl_k rfl (fun K hK => ?_); go_simp; refine hK _ ?_; clear hK K
    refine wl_k rfl (fun K hK => ?_); go_simp; refine hK _ ?_; clear hK K
    (have lthp14p16 := heap_lt hp14; have lsp16 := hb.size; (with_reducible apply wl_new84); intro w5 p16 hbn hlp16 hp16; replace hp14 := below_look hbn hp14; replace i1 := i1.below hbn; replace i2 := i2.below hbn; replace hb := hb.trans (hbn.mono hb.size); clear hbn)
    ((with_reducible apply wl_putI); exact rfl; exact rfl; exact hp16; intro w6 hbx hk hq hi; replace hp14 := hk _ _ (by omega) hp14; replace i1 := hi _ _ _ i1; replace i2 := hi _ _ _ i2; replace hb := hbx _ _ (by omega) hb; clear hp16; have hp16 := hq; clear hbx hk hq hi)
    go_upto_region 5 with (fail)
    apply wp_region_lit
    refine wl_k rfl (fun K hK => ?_); go_simp; refine hK _ ?_; clear hK K
    refine wl_ck rfl (fun K hK => ?_); go_simp; refine ⟨_, _, ⟨rfl, rfl⟩, hK _ _ ⟨_, isWidth_any n true (Lib.hid hr.out.symm) _, ?_⟩⟩; clear hK K; rintro e w7 ⟨rfl, hb1⟩; refine ⟨_, rfl, ?_⟩; simp only [put_lit, List.set_cons_zero, List.set_cons_succ]
    replace hp14 := below_look hb1 hp14; replace hp16 := below_look hb1 hp16; replace i1 := i1.below hb1; replace i2 := i2.below hb1; replace hb := hb.trans (hb1.mono hb.size); clear hb1
    refine wl_k rfl (fun K hK => ?_); go_simp; refine hK _ ?_; clear hK K
    refine wl_k rfl (fun K hK => ?_); go_simp; refine hK _ ?_; clear hK K
    refine wl_k rfl (fun K hK => ?_); go_simp; refine hK _ ?_; clear hK K
    refine wl_ck rfl (fun K hK => ?_); go_simp; refine ⟨_, _, ⟨rfl, rfl⟩, hK _ _ ⟨_, isOpI_any op true (Lib.hid ho.out.symm) _, ?_⟩⟩; clear hK K; rintro e w8 ⟨rfl, hb1⟩; refine ⟨_, rfl, ?_⟩; simp only [put_lit, List.set_cons_zero, List.set_cons_succ]
    replace hp14 := below_look hb1 hp14; replace hp16 := below_look hb1 hp16; replace i1 := i1.below hb1; replace i2 := i2.below hb1; replace hb := hb.trans (hb1.mono hb.size); clear hb1
    refine wl_k rfl (fun K hK => ?_); go_simp; refine hK _ ?_; clear hK K
    refine wl_k rfl (fun K hK => ?_); go_simp; refine hK _ ?_; clear hK K
    refine wl_k rfl (fun K hK => ?_); go_simp; refine hK _ ?_; clear hK K
    refine wl_k rfl (fun K hK => ?_); go_simp; refine hK _ ?_; clear hK K
    refine wl_ck rfl (fun K hK => ?_); go_simp; refine ⟨_, _, ⟨rfl, rfl⟩, hK _ _ ⟨_, isModeI_any md true (Lib.hid hm.out.symm) _, ?_⟩⟩; clear hK K; rintro e w9 ⟨rfl, hb1⟩; refine ⟨_, rfl, ?_⟩; simp only [put_lit, List.set_cons_zero, List.set_cons_succ]
    replace hp14 := below_look hb1 hp14; replace hp16 := below_look hb1 hp16; replace i1 := i1.below hb1; replace i2 := i2.below hb1; replace hb := hb.trans (hb1.mono hb.size); clear hb1
    go_upto_region 8 with (fail)
    replace i1 := i1.below (Below.refl _ _).drew
    replace i2 := i2.below (Below.refl _ _).drew
    replace hb := hb.drew
    have gp16 := hp16
    refine wp_region_held_drew (S := Kept [] w9) mixed (Kept.drew [] w9) (fun hS => ?_)
    refine ha_val (i := 0) rfl (by kernel_rfl) (by kernel_rfl) (by kernel_rfl) (fun _ _ _ h => h) hS rfl (fun w' hw' => ex_row rfl (rowIv (hw'.look hp14 (by simp <;> omega)))) ?_; try simp only [put_lit, List.set_cons_zero, List.set_cons_succ]
    refine ha_k (i := 1) rfl (by kernel_rfl) (by kernel_rfl) (by kernel_rfl) (fun _ _ _ _ h => h) hS rfl (fun K hK => ?_); go_simp; refine hK _ ?_; clear hK K; try simp only [put_lit, List.set_cons_zero, List.set_cons_succ]
    refine ha_k (i := 2) rfl (by kernel_rfl) (by kernel_rfl) (by kernel_rfl) (fun _ _ _ _ h => h) hS rfl (fun K hK => ?_); go_simp; refine hK _ ?_; clear hK K; try simp only [put_lit, List.set_cons_zero, List.set_cons_succ]
    refine ha_call (i := 3) (by kernel_rfl) rfl rfl (fun K hK => ?_); go_simp; refine ⟨_, _, ⟨rfl, rfl⟩, hK _ _ ⟨_, withinI_any x n s A1 c1 n1 n2 _ i1 (by omega) true HR1, ?_⟩⟩; clear hK K; rintro e w10 ⟨rfl, hb1⟩; refine ⟨_, rfl, hS.below hb1, ?_⟩; replace hS := hS.below hb1; replace hp14 := below_look hb1 hp14; replace hp16 := below_look hb1 hp16; replace i1 := i1.below hb1; replace i2 := i2.below hb1; replace hb := hb.trans (hb1.mono hb.size); clear hb1; try simp only [put_lit, List.set_cons_zero, List.set_cons_succ]
    refine ha_k (i := 4) rfl (by kernel_rfl) (by kernel_rfl) (by kernel_rfl) (fun _ _ _ _ h => h) hS rfl (fun K hK => ?_); go_simp; refine hK _ ?_; clear hK K; try simp only [put_lit, List.set_cons_zero, List.set_cons_succ]
    refine ha_k (i := 5) rfl (by kernel_rfl) (by kernel_rfl) (by kernel_rfl) (fun _ _ _ _ h => h) hS rfl (fun K hK => ?_); go_simp; refine hK _ ?_; clear hK K; try simp only [put_lit, List.set_cons_zero, List.set_cons_succ]
    refine ha_val (i := 6) rfl (by kernel_rfl) (by kernel_rfl) (by kernel_rfl) (fun _ _ _ h => h) hS rfl (fun w' hw' => ex_row rfl (rowIv (hw'.look gp16 (by simp <;> omega)))) ?_; try simp only [put_lit, List.set_cons_zero, List.set_cons_succ]
    refine ha_k (i := 7) rfl (by kernel_rfl) (by kernel_rfl) (by kernel_rfl) (fun _ _ _ _ h => h) hS rfl (fun K hK => ?_); go_simp; refine hK _ ?_; clear hK K; try simp only [put_lit, List.set_cons_zero, List.set_cons_succ]
    refine ha_k (i := 8) rfl (by kernel_rfl) (by kernel_rfl) (by kernel_rfl) (fun _ _ _ _ h => h) hS rfl (fun K hK => ?_); go_simp; refine hK _ ?_; clear hK K; try simp only [put_lit, List.set_cons_zero, List.set_cons_succ]
    refine ha_call (i := 9) (by kernel_rfl) rfl rfl (fun K hK => ?_); go_simp; refine ⟨_, _, ⟨rfl, rfl⟩, hK _ _ ⟨_, withinI_any y n s A2 c2 n1 n2 _ i2 (by omega) true HR2, ?_⟩⟩; clear hK K; rintro e w11 ⟨rfl, hb1⟩; refine ⟨_, rfl, hS.below hb1, ?_⟩; replace hS := hS.below hb1; replace hp14 := below_look hb1 hp14; replace hp16 := below_look hb1 hp16; replace i1 := i1.below hb1; replace i2 := i2.below hb1; replace hb := hb.trans (hb1.mono hb.size); clear hb1; try simp only [put_lit, List.set_cons_zero, List.set_cons_succ]
    refine ha_k (i := 10) rfl (by kernel_rfl) (by kernel_rfl) (by kernel_rfl) (fun _ _ _ _ h => h) hS rfl (fun K hK => ?_); go_simp; refine hK _ ?_; clear hK K; try simp only [put_lit, List.set_cons_zero, List.set_cons_succ]
    refine ha_k (i := 11) rfl (by kernel_rfl) (by kernel_rfl) (by kernel_rfl) (fun _ _ _ _ h => h) hS rfl (fun K hK => ?_); go_simp; refine hK _ ?_; clear hK K; try simp only [put_lit, List.set_cons_zero, List.set_cons_succ]
    refine ha_k (i := 12) rfl (by kernel_rfl) (by kernel_rfl) (by kernel_rfl) (fun _ _ _ _ h => h) hS rfl (fun K hK => ?_); go_simp; refine hK _ ?_; clear hK K; try simp only [put_lit, List.set_cons_zero, List.set_cons_succ]
    refine ha_k (i := 13) rfl (by kernel_rfl) (by kernel_rfl) (by kernel_rfl) (fun _ _ _ _ h => h) hS rfl (fun K hK => ?_); go_simp; refine hK _ ?_; clear hK K; try simp only [put_lit, List.set_cons_zero, List.set_cons_succ]
    refine ha_k (i := 14) rfl (by kernel_rfl) (by kernel_rfl) (by kernel_rfl) (fun _ _ _ _ h => h) hS rfl (fun K hK => ?_); go_simp; refine hK _ ?_; clear hK K; try simp only [put_lit, List.set_cons_zero, List.set_cons_succ]
    refine ha_skip (i := 15) rfl (by kernel_rfl) (by kernel_rfl) (by kernel_rfl) (fun _ _ _ h => h) hS rfl ?_; simp only [List.getElem_toArray, List.getElem_cons_succ, List.getElem_cons_zero, put_lit, List.set_cons_zero, List.set_cons_succ]
    refine ha_skip (i := 16) rfl (by kernel_rfl) (by kernel_rfl) (by kernel_rfl) (fun _ _ _ h => h) hS rfl ?_; simp only [List.getElem_toArray, List.getElem_cons_succ, List.getElem_cons_zero, put_lit, List.set_cons_zero, List.set_cons_succ]
    refine ha_skip (i := 17) rfl (by kernel_rfl) (by kernel_rfl) (by kernel_rfl) (fun _ _ _ h => h) hS rfl ?_; simp only [List.getElem_toArray, List.getElem_cons_succ, List.getElem_cons_zero, put_lit, List.set_cons_zero, List.set_cons_succ]
    refine ha_skip (i := 18) rfl (by kernel_rfl) (by kernel_rfl) (by kernel_rfl) (fun _ _ _ h => h) hS rfl ?_; simp only [List.getElem_toArray, List.getElem_cons_succ, List.getElem_cons_zero, put_lit, List.set_cons_zero, List.set_cons_succ]
    refine ha_skip (i := 19) rfl (by kernel_rfl) (by kernel_rfl) (by kernel_rfl) (fun _ _ _ h => h) hS rfl ?_; simp only [List.getElem_toArray, List.getElem_cons_succ, List.getElem_cons_zero, put_lit, List.set_cons_zero, List.set_cons_succ]
    refine ha_skip (i := 20) rfl (by kernel_rfl) (by kernel_rfl) (by kernel_rfl) (fun _ _ _ h => h) hS rfl ?_; simp only [List.getElem_toArray, List.getElem_cons_succ, List.getElem_cons_zero, put_lit, List.set_cons_zero, List.set_cons_succ]
    refine ha_skip (i := 21) rfl (by kernel_rfl) (by kernel_rfl) (by kernel_rfl) (fun _ _ _ h => h) hS rfl ?_; simp only [List.getElem_toArray, List.getElem_cons_succ, List.getElem_cons_zero, put_lit, List.set_cons_zero, List.set_cons_succ]
    refine ha_skip (i := 22) rfl (by kernel_rfl) (by kernel_rfl) (by kernel_rfl) (fun _ _ _ h => h) hS rfl ?_; simp only [List.getElem_toArray, List.getElem_cons_succ, List.getElem_cons_zero, put_lit, List.set_cons_zero, List.set_cons_succ]
    refine ha_skip (i := 23) rfl (by kernel_rfl) (by kernel_rfl) (by kernel_rfl) (fun _ _ _ h => h) hS rfl ?_; simp only [List.getElem_toArray, List.getElem_cons_succ, List.getElem_cons_zero, put_lit, List.set_cons_zero, List.set_cons_succ]
    refine ha_skip (i := 24) rfl (by kernel_rfl) (by kernel_rfl) (by kernel_rfl) (fun _ _ _ h => h) hS rfl ?_; simp only [List.getElem_toArray, List.getElem_cons_succ, List.getElem_cons_zero, put_lit, List.set_cons_zero, List.set_cons_succ]
    refine ha_k (i := 25) rfl (by kernel_rfl) (by kernel_rfl) (by kernel_rfl) (fun _ _ _ _ h => h) hS rfl (fun K hK => ?_); go_simp; refine hK _ ?_; clear hK K; try simp only [put_lit, List.set_cons_zero, List.set_cons_succ]
    refine ha_k (i := 26) rfl (by kernel_rfl) (by kernel_rfl) (by kernel_rfl) (fun _ _ _ _ h => h) hS rfl (fun K hK => ?_); go_simp; refine hK _ ?_; clear hK K; try simp only [put_lit, List.set_cons_zero, List.set_cons_succ]
    refine wpAnyH_done (by kernel_rfl) ?_ _
    have yc := iv1 hp16
    rw [E0.out] at yc
    go_wp2_with fail
    exact bodyPost_ret (results_tmp2 rfl _ _ _) rfl ⟨rfl, hb⟩
set_option maxHeartbeats 4000000 in
set_option maxRecDepth 100000 in
theorem DoI_plain (op a b md : ByteArray) (n : Int) (s : Bool) (x y : Int) (hx : rdm a = some x) (hy : rdm b = some y) (hr : Hid (isRight n = true)) (ho : Hid (isOpL op.data.toList = true)) (hm : Hid (isModeL md.data.toList = true)) (HR1 : Hid (hasW n.toNat s x = true)) (HR2 : Hid (hasW n.toNat s y = true)) (z r er : Int) (HEX : Hid (∀ (A A' : Option Addr) (c c' : Nat) (w : World), IvAt w x A c → IvAt w y A' c' → Calls Try.prog 70 #[.string op, .agg (iv x A c), .agg (iv y A' c'), .int .i64 n, .bool s] w fun e w' => ∃ A2 c2, e = .returned (.agg (iv z A2 c2)) ∧ IvAt w' z A2 c2 ∧ Below w.heap.size w w')) (nz : Hid (nl z.natAbs ≤ 7)) (HB : Hid (bringW n.toNat s md.toList z = (r, er))) (T : ByteArray) (HR0 : Hid (er = 0 → T = ⟨(txt r).toArray⟩)) (HR1' : Hid (er ≠ 0 → T = ⟨#[]⟩)) (l1 : (op.toList == [60, 60]) = false) (l2 : (op.toList == [62, 62]) = false) (l3 : (op.toList == [47]) = false) (l4 : (op.toList == [37]) = false) (w : World) :
    Calls Try.prog 23 #[.string op, .string a, .string b, .int .i64 n, .bool s, .string md] w fun e w' => e = .returned (.tuple #[.string T, .int .i64 er]) ∧ Below w.heap.size w w' := by
  have rb : Hid (r.natAbs < 10 ^ 64) := Lib.hid (small64 (by have := bring_bd hr.out HB.out; omega))
  have rn : Hid (nl r.natAbs ≤ 400) := Lib.hid (by
    have h := nl_le r.natAbs 7 (Nat.lt_trans rb.out (by rw [B_eq]; decide))
    omega)
  have nx : nl x.natAbs ≤ 5 := by have := rdm_nl (m := a); rw [hx] at this; exact this
  have ny : nl y.natAbs ≤ 5 := by have := rdm_nl (m := b); rw [hy] at this; exact this
  obtain ⟨k0, hk0, k1, k2, k3⟩ := right_bits hr.out
  have n1 : 1 ≤ n := by omega
  have n2 : n ≤ 64 := by omega
  have hwr : IntKind.i64.wrap (n - 1) = n - 1 := IntWalk.i64_in _ (by omega)
  clear hk0 k1 k2 k3
  have R1 := Lib.hid (ReadI_any a)
  have R2 := Lib.hid (ReadI_any b)
  rw [hx] at R1
  rw [hy] at R2
  simp only [Option.getD_some, Option.isSome_some] at R1 R2
  clear hx hy
  go_enter Try.func23, Try.ntmps23
  go_upto_region 1 with (fail)
  have hb := Below.refl w.heap.size w
  apply wp_region_lit
  refine wl_k rfl (fun K hK => ?_); go_simp; refine hK _ ?_; clear hK K
  refine wl_ck rfl (fun K hK => ?_); go_simp; refine ⟨_, _, ⟨rfl, rfl⟩, hK _ _ ⟨_, R1.out _, ?_⟩⟩; clear hK K; rintro e w1 ⟨A1, c1, rfl, i1, hb1⟩; refine ⟨_, rfl, ?_⟩; simp only [put_lit, List.set_cons_zero, List.set_cons_succ]
  replace hb := hb.trans (hb1.mono hb.size); clear hb1
  refine wl_k rfl (fun K hK => ?_); go_simp; refine hK _ ?_; clear hK K
  refine wl_k rfl (fun K hK => ?_); go_simp; refine hK _ ?_; clear hK K
  refine wl_k rfl (fun K hK => ?_); go_simp; refine hK _ ?_; clear hK K
  (have lsp14 := hb.size; (with_reducible apply wl_new84); intro w2 p14 hbn hlp14 hp14; replace i1 := i1.below hbn; replace hb := hb.trans (hbn.mono hb.size); clear hbn)
  ((with_reducible apply wl_putI); exact rfl; exact rfl; exact hp14; intro w3 hbx hk hq hi; replace i1 := hi _ _ _ i1; replace hb := hbx _ _ (by omega) hb; clear hp14; have hp14 := hq; clear hbx hk hq hi)
  go_upto_region 2 with (fail)
  apply wp_region_lit
  refine wl_k rfl (fun K hK => ?_); go_simp; refine hK _ ?_; clear hK K
  refine wl_ck rfl (fun K hK => ?_); go_simp; refine ⟨_, _, ⟨rfl, rfl⟩, hK _ _ ⟨_, R2.out _, ?_⟩⟩; clear hK K; rintro e w4 ⟨A2, c2, rfl, i2, hb1⟩; refine ⟨_, rfl, ?_⟩; simp only [put_lit, List.set_cons_zero, List.set_cons_succ]
  replace hp14 := below_look hb1 hp14; replace i1 := i1.below hb1; replace hb := hb.trans (hb1.mono hb.size); clear hb1
  refine wl_k rfl (fun K hK => ?_); go_simp; refine hK _ ?_; clear hK K
  refine wl_k rfl (fun K hK => ?_); go_simp; refine hK _ ?_; clear hK K
  refine wl_k rfl (fun K hK => ?_); go_simp; refine hK _ ?_; clear hK K
  (have lthp14p16 := heap_lt hp14; have lsp16 := hb.size; (with_reducible apply wl_new84); intro w5 p16 hbn hlp16 hp16; replace hp14 := below_look hbn hp14; replace i1 := i1.below hbn; replace i2 := i2.below hbn; replace hb := hb.trans (hbn.mono hb.size); clear hbn)
  ((with_reducible apply wl_putI); exact rfl; exact rfl; exact hp16; intro w6 hbx hk hq hi; replace hp14 := hk _ _ (by omega) hp14; replace i1 := hi _ _ _ i1; replace i2 := hi _ _ _ i2; replace hb := hbx _ _ (by omega) hb; clear hp16; have hp16 := hq; clear hbx hk hq hi)
  go_upto_region 5 with (fail)
  apply wp_region_lit
  refine wl_k rfl (fun K hK => ?_); go_simp; refine hK _ ?_; clear hK K
  refine wl_ck rfl (fun K hK => ?_); go_simp; refine ⟨_, _, ⟨rfl, rfl⟩, hK _ _ ⟨_, isWidth_any n true (Lib.hid hr.out.symm) _, ?_⟩⟩; clear hK K; rintro e w7 ⟨rfl, hb1⟩; refine ⟨_, rfl, ?_⟩; simp only [put_lit, List.set_cons_zero, List.set_cons_succ]
  replace hp14 := below_look hb1 hp14; replace hp16 := below_look hb1 hp16; replace i1 := i1.below hb1; replace i2 := i2.below hb1; replace hb := hb.trans (hb1.mono hb.size); clear hb1
  refine wl_k rfl (fun K hK => ?_); go_simp; refine hK _ ?_; clear hK K
  refine wl_k rfl (fun K hK => ?_); go_simp; refine hK _ ?_; clear hK K
  refine wl_k rfl (fun K hK => ?_); go_simp; refine hK _ ?_; clear hK K
  refine wl_ck rfl (fun K hK => ?_); go_simp; refine ⟨_, _, ⟨rfl, rfl⟩, hK _ _ ⟨_, isOpI_any op true (Lib.hid ho.out.symm) _, ?_⟩⟩; clear hK K; rintro e w8 ⟨rfl, hb1⟩; refine ⟨_, rfl, ?_⟩; simp only [put_lit, List.set_cons_zero, List.set_cons_succ]
  replace hp14 := below_look hb1 hp14; replace hp16 := below_look hb1 hp16; replace i1 := i1.below hb1; replace i2 := i2.below hb1; replace hb := hb.trans (hb1.mono hb.size); clear hb1
  refine wl_k rfl (fun K hK => ?_); go_simp; refine hK _ ?_; clear hK K
  refine wl_k rfl (fun K hK => ?_); go_simp; refine hK _ ?_; clear hK K
  refine wl_k rfl (fun K hK => ?_); go_simp; refine hK _ ?_; clear hK K
  refine wl_k rfl (fun K hK => ?_); go_simp; refine hK _ ?_; clear hK K
  refine wl_ck rfl (fun K hK => ?_); go_simp; refine ⟨_, _, ⟨rfl, rfl⟩, hK _ _ ⟨_, isModeI_any md true (Lib.hid hm.out.symm) _, ?_⟩⟩; clear hK K; rintro e w9 ⟨rfl, hb1⟩; refine ⟨_, rfl, ?_⟩; simp only [put_lit, List.set_cons_zero, List.set_cons_succ]
  replace hp14 := below_look hb1 hp14; replace hp16 := below_look hb1 hp16; replace i1 := i1.below hb1; replace i2 := i2.below hb1; replace hb := hb.trans (hb1.mono hb.size); clear hb1
  go_upto_region 8 with (fail)
  replace i1 := i1.below (Below.refl _ _).drew
  replace i2 := i2.below (Below.refl _ _).drew
  replace hb := hb.drew
  have gp16 := hp16
  refine wp_region_held_drew (S := Kept [] w9) mixed (Kept.drew [] w9) (fun hS => ?_)
  refine ha_val (i := 0) rfl (by kernel_rfl) (by kernel_rfl) (by kernel_rfl) (fun _ _ _ h => h) hS rfl (fun w' hw' => ex_row rfl (rowIv (hw'.look hp14 (by simp <;> omega)))) ?_; try simp only [put_lit, List.set_cons_zero, List.set_cons_succ]
  refine ha_k (i := 1) rfl (by kernel_rfl) (by kernel_rfl) (by kernel_rfl) (fun _ _ _ _ h => h) hS rfl (fun K hK => ?_); go_simp; refine hK _ ?_; clear hK K; try simp only [put_lit, List.set_cons_zero, List.set_cons_succ]
  refine ha_k (i := 2) rfl (by kernel_rfl) (by kernel_rfl) (by kernel_rfl) (fun _ _ _ _ h => h) hS rfl (fun K hK => ?_); go_simp; refine hK _ ?_; clear hK K; try simp only [put_lit, List.set_cons_zero, List.set_cons_succ]
  refine ha_call (i := 3) (by kernel_rfl) rfl rfl (fun K hK => ?_); go_simp; refine ⟨_, _, ⟨rfl, rfl⟩, hK _ _ ⟨_, withinI_any x n s A1 c1 n1 n2 _ i1 (by omega) true HR1, ?_⟩⟩; clear hK K; rintro e w10 ⟨rfl, hb1⟩; refine ⟨_, rfl, hS.below hb1, ?_⟩; replace hS := hS.below hb1; replace hp14 := below_look hb1 hp14; replace hp16 := below_look hb1 hp16; replace i1 := i1.below hb1; replace i2 := i2.below hb1; replace hb := hb.trans (hb1.mono hb.size); clear hb1; try simp only [put_lit, List.set_cons_zero, List.set_cons_succ]
  refine ha_k (i := 4) rfl (by kernel_rfl) (by kernel_rfl) (by kernel_rfl) (fun _ _ _ _ h => h) hS rfl (fun K hK => ?_); go_simp; refine hK _ ?_; clear hK K; try simp only [put_lit, List.set_cons_zero, List.set_cons_succ]
  refine ha_k (i := 5) rfl (by kernel_rfl) (by kernel_rfl) (by kernel_rfl) (fun _ _ _ _ h => h) hS rfl (fun K hK => ?_); go_simp; refine hK _ ?_; clear hK K; try simp only [put_lit, List.set_cons_zero, List.set_cons_succ]
  refine ha_val (i := 6) rfl (by kernel_rfl) (by kernel_rfl) (by kernel_rfl) (fun _ _ _ h => h) hS rfl (fun w' hw' => ex_row rfl (rowIv (hw'.look gp16 (by simp <;> omega)))) ?_; try simp only [put_lit, List.set_cons_zero, List.set_cons_succ]
  refine ha_k (i := 7) rfl (by kernel_rfl) (by kernel_rfl) (by kernel_rfl) (fun _ _ _ _ h => h) hS rfl (fun K hK => ?_); go_simp; refine hK _ ?_; clear hK K; try simp only [put_lit, List.set_cons_zero, List.set_cons_succ]
  refine ha_k (i := 8) rfl (by kernel_rfl) (by kernel_rfl) (by kernel_rfl) (fun _ _ _ _ h => h) hS rfl (fun K hK => ?_); go_simp; refine hK _ ?_; clear hK K; try simp only [put_lit, List.set_cons_zero, List.set_cons_succ]
  refine ha_call (i := 9) (by kernel_rfl) rfl rfl (fun K hK => ?_); go_simp; refine ⟨_, _, ⟨rfl, rfl⟩, hK _ _ ⟨_, withinI_any y n s A2 c2 n1 n2 _ i2 (by omega) true HR2, ?_⟩⟩; clear hK K; rintro e w11 ⟨rfl, hb1⟩; refine ⟨_, rfl, hS.below hb1, ?_⟩; replace hS := hS.below hb1; replace hp14 := below_look hb1 hp14; replace hp16 := below_look hb1 hp16; replace i1 := i1.below hb1; replace i2 := i2.below hb1; replace hb := hb.trans (hb1.mono hb.size); clear hb1; try simp only [put_lit, List.set_cons_zero, List.set_cons_succ]
  refine ha_k (i := 10) rfl (by kernel_rfl) (by kernel_rfl) (by kernel_rfl) (fun _ _ _ _ h => h) hS rfl (fun K hK => ?_); go_simp; refine hK _ ?_; clear hK K; try simp only [put_lit, List.set_cons_zero, List.set_cons_succ]
  refine ha_k (i := 11) rfl (by kernel_rfl) (by kernel_rfl) (by kernel_rfl) (fun _ _ _ _ h => h) hS rfl (fun K hK => ?_); go_simp; refine hK _ ?_; clear hK K; try simp only [put_lit, List.set_cons_zero, List.set_cons_succ]
  refine ha_k (i := 12) rfl (by kernel_rfl) (by kernel_rfl) (by kernel_rfl) (fun _ _ _ _ h => h) hS rfl (fun K hK => ?_); go_simp; refine hK _ ?_; clear hK K; try simp only [put_lit, List.set_cons_zero, List.set_cons_succ]
  refine ha_k (i := 13) rfl (by kernel_rfl) (by kernel_rfl) (by kernel_rfl) (fun _ _ _ _ h => h) hS rfl (fun K hK => ?_); go_simp; refine hK _ ?_; clear hK K; try simp only [put_lit, List.set_cons_zero, List.set_cons_succ]
  refine ha_k (i := 14) rfl (by kernel_rfl) (by kernel_rfl) (by kernel_rfl) (fun _ _ _ _ h => h) hS rfl (fun K hK => ?_); go_simp; refine hK _ ?_; clear hK K; try simp only [put_lit, List.set_cons_zero, List.set_cons_succ]
  refine ha_skip (i := 15) rfl (by kernel_rfl) (by kernel_rfl) (by kernel_rfl) (fun _ _ _ h => h) hS rfl ?_; simp only [List.getElem_toArray, List.getElem_cons_succ, List.getElem_cons_zero, put_lit, List.set_cons_zero, List.set_cons_succ]
  refine ha_skip (i := 16) rfl (by kernel_rfl) (by kernel_rfl) (by kernel_rfl) (fun _ _ _ h => h) hS rfl ?_; simp only [List.getElem_toArray, List.getElem_cons_succ, List.getElem_cons_zero, put_lit, List.set_cons_zero, List.set_cons_succ]
  refine ha_skip (i := 17) rfl (by kernel_rfl) (by kernel_rfl) (by kernel_rfl) (fun _ _ _ h => h) hS rfl ?_; simp only [List.getElem_toArray, List.getElem_cons_succ, List.getElem_cons_zero, put_lit, List.set_cons_zero, List.set_cons_succ]
  refine ha_skip (i := 18) rfl (by kernel_rfl) (by kernel_rfl) (by kernel_rfl) (fun _ _ _ h => h) hS rfl ?_; simp only [List.getElem_toArray, List.getElem_cons_succ, List.getElem_cons_zero, put_lit, List.set_cons_zero, List.set_cons_succ]
  refine ha_skip (i := 19) rfl (by kernel_rfl) (by kernel_rfl) (by kernel_rfl) (fun _ _ _ h => h) hS rfl ?_; simp only [List.getElem_toArray, List.getElem_cons_succ, List.getElem_cons_zero, put_lit, List.set_cons_zero, List.set_cons_succ]
  refine ha_skip (i := 20) rfl (by kernel_rfl) (by kernel_rfl) (by kernel_rfl) (fun _ _ _ h => h) hS rfl ?_; simp only [List.getElem_toArray, List.getElem_cons_succ, List.getElem_cons_zero, put_lit, List.set_cons_zero, List.set_cons_succ]
  refine ha_skip (i := 21) rfl (by kernel_rfl) (by kernel_rfl) (by kernel_rfl) (fun _ _ _ h => h) hS rfl ?_; simp only [List.getElem_toArray, List.getElem_cons_succ, List.getElem_cons_zero, put_lit, List.set_cons_zero, List.set_cons_succ]
  refine ha_skip (i := 22) rfl (by kernel_rfl) (by kernel_rfl) (by kernel_rfl) (fun _ _ _ h => h) hS rfl ?_; simp only [List.getElem_toArray, List.getElem_cons_succ, List.getElem_cons_zero, put_lit, List.set_cons_zero, List.set_cons_succ]
  refine ha_skip (i := 23) rfl (by kernel_rfl) (by kernel_rfl) (by kernel_rfl) (fun _ _ _ h => h) hS rfl ?_; simp only [List.getElem_toArray, List.getElem_cons_succ, List.getElem_cons_zero, put_lit, List.set_cons_zero, List.set_cons_succ]
  refine ha_skip (i := 24) rfl (by kernel_rfl) (by kernel_rfl) (by kernel_rfl) (fun _ _ _ h => h) hS rfl ?_; simp only [List.getElem_toArray, List.getElem_cons_succ, List.getElem_cons_zero, put_lit, List.set_cons_zero, List.set_cons_succ]
  refine ha_k (i := 25) rfl (by kernel_rfl) (by kernel_rfl) (by kernel_rfl) (fun _ _ _ _ h => h) hS rfl (fun K hK => ?_); go_simp; refine hK _ ?_; clear hK K; try simp only [put_lit, List.set_cons_zero, List.set_cons_succ]
  refine ha_k (i := 26) rfl (by kernel_rfl) (by kernel_rfl) (by kernel_rfl) (fun _ _ _ _ h => h) hS rfl (fun K hK => ?_); go_simp; refine hK _ ?_; clear hK K; try simp only [put_lit, List.set_cons_zero, List.set_cons_succ]
  refine wpAnyH_done (by kernel_rfl) ?_ _
  go_upto_region 12 with (fail)
  apply wp_region_lit
  refine wl_k rfl (fun K hK => ?_); go_simp; refine hK _ ?_; clear hK K
  ((with_reducible apply wl_rowG); exact rfl; exact rfl; exact rowIv hp14)
  ((with_reducible apply wl_rowG); exact rfl; exact rfl; exact rowIv hp16)
  refine wl_k rfl (fun K hK => ?_); go_simp; refine hK _ ?_; clear hK K
  refine wl_k rfl (fun K hK => ?_); go_simp; refine hK _ ?_; clear hK K
  refine wl_ck rfl (fun K hK => ?_); go_simp; refine ⟨_, _, ⟨rfl, rfl⟩, hK _ _ ⟨_, HEX.out _ _ _ _ _ i1 i2, ?_⟩⟩; clear hK K; rintro e v1 ⟨A4, c4, rfl, i4, hb1⟩; refine ⟨_, rfl, ?_⟩; simp only [put_lit, List.set_cons_zero, List.set_cons_succ]
  clear i1 i2
  replace hb := hb.trans (hb1.mono hb.size); clear hb1
  refine wl_k rfl (fun K hK => ?_); go_simp; refine hK _ ?_; clear hK K
  refine wl_k rfl (fun K hK => ?_); go_simp; refine hK _ ?_; clear hK K
  refine wl_k rfl (fun K hK => ?_); go_simp; refine hK _ ?_; clear hK K
  refine wl_ck rfl (fun K hK => ?_); go_simp; refine ⟨_, _, ⟨rfl, rfl⟩, hK _ _ ⟨_, broughtI_any z n s md A4 c4 n1 n2 _ i4 (by have := nz.out; omega) hm r er HB, ?_⟩⟩; clear hK K; rintro e v2 ⟨A5, c5, rfl, i5, hb1⟩; refine ⟨_, rfl, ?_⟩; simp only [put_lit, List.set_cons_zero, List.set_cons_succ]
  clear i4
  replace hb := hb.trans (hb1.mono hb.size); clear hb1
  refine wl_k rfl (fun K hK => ?_); go_simp; refine hK _ ?_; clear hK K
  refine wl_k rfl (fun K hK => ?_); go_simp; refine hK _ ?_; clear hK K
  refine wl_k rfl (fun K hK => ?_); go_simp; refine hK _ ?_; clear hK K
  (have lsp19 := hb.size; (with_reducible apply wl_new84); intro v3 p19 hbn hlp19 hp19; replace i5 := i5.below hbn; replace hb := hb.trans (hbn.mono hb.size); clear hbn)
  ((with_reducible apply wl_putI); exact rfl; exact rfl; exact hp19; intro v4 hbx hk hq hi; replace i5 := hi _ _ _ i5; replace hb := hbx _ _ (by omega) hb; clear hp19; have hp19 := hq; clear hbx hk hq hi)
  by_cases he : er = 0
  · have HR := Lib.hid (HR0.out he)
    subst he
    go_upto_region 15 with (fail)
    apply wp_region_lit
    ((with_reducible apply wl_rowG); exact rfl; exact rfl; exact rowIv hp19)
    refine wl_ck rfl (fun K hK => ?_); go_simp; refine ⟨_, _, ⟨rfl, rfl⟩, hK _ _ ⟨_, TextI_any r A5 c5 _ i5 rn.out rb.out, ?_⟩⟩; clear hK K; rintro e v5 ⟨rfl, hb1⟩; refine ⟨_, rfl, ?_⟩; simp only [put_lit, List.set_cons_zero, List.set_cons_succ]
    replace hb := hb.trans (hb1.mono hb.size); clear hb1
    go_wp2_with fail
    exact bodyPost_ret (results_tmp2 rfl _ _ _) rfl ⟨by rw [HR.out]; rfl, hb⟩
  · have HR := Lib.hid (HR1'.out he)
    go_wp2_with fail
    exact bodyPost_ret (results_tmp2 rfl _ _ _) rfl ⟨by rw [HR.out]; rfl, hb⟩
set_option maxHeartbeats 4000000 in
set_option maxRecDepth 100000 in
theorem DoI_div (op a b md : ByteArray) (n : Int) (s : Bool) (x y : Int) (hx : rdm a = some x) (hy : rdm b = some y) (hr : Hid (isRight n = true)) (ho : Hid (isOpL op.data.toList = true)) (hm : Hid (isModeL md.data.toList = true)) (HR1 : Hid (hasW n.toNat s x = true)) (HR2 : Hid (hasW n.toNat s y = true)) (z r er : Int) (HEX : Hid (∀ (A A' : Option Addr) (c c' : Nat) (w : World), IvAt w x A c → IvAt w y A' c' → Calls Try.prog 70 #[.string op, .agg (iv x A c), .agg (iv y A' c'), .int .i64 n, .bool s] w fun e w' => ∃ A2 c2, e = .returned (.agg (iv z A2 c2)) ∧ IvAt w' z A2 c2 ∧ Below w.heap.size w w')) (nz : Hid (nl z.natAbs ≤ 7)) (HB : Hid (bringW n.toNat s md.toList z = (r, er))) (T : ByteArray) (HR0 : Hid (er = 0 → T = ⟨(txt r).toArray⟩)) (HR1' : Hid (er ≠ 0 → T = ⟨#[]⟩)) (hy0 : y ≠ 0) (s1 s2 : Bool) (hs : (s1 || s2) = true) (l1 : (op.toList == [60, 60]) = false) (l2 : (op.toList == [62, 62]) = false) (l3 : (op.toList == [47]) = s1) (l4 : (op.toList == [37]) = s2) (w : World) :
    Calls Try.prog 23 #[.string op, .string a, .string b, .int .i64 n, .bool s, .string md] w fun e w' => e = .returned (.tuple #[.string T, .int .i64 er]) ∧ Below w.heap.size w w' := by
  have rb : Hid (r.natAbs < 10 ^ 64) := Lib.hid (small64 (by have := bring_bd hr.out HB.out; omega))
  have rn : Hid (nl r.natAbs ≤ 400) := Lib.hid (by
    have h := nl_le r.natAbs 7 (Nat.lt_trans rb.out (by rw [B_eq]; decide))
    omega)
  have nx : nl x.natAbs ≤ 5 := by have := rdm_nl (m := a); rw [hx] at this; exact this
  have ny : nl y.natAbs ≤ 5 := by have := rdm_nl (m := b); rw [hy] at this; exact this
  obtain ⟨k0, hk0, k1, k2, k3⟩ := right_bits hr.out
  have n1 : 1 ≤ n := by omega
  have n2 : n ≤ 64 := by omega
  have hwr : IntKind.i64.wrap (n - 1) = n - 1 := IntWalk.i64_in _ (by omega)
  clear hk0 k1 k2 k3
  have R1 := Lib.hid (ReadI_any a)
  have R2 := Lib.hid (ReadI_any b)
  rw [hx] at R1
  rw [hy] at R2
  simp only [Option.getD_some, Option.isSome_some] at R1 R2
  clear hx hy
  obtain ⟨q, hq⟩ : ∃ q, nl y.natAbs = q + 1 := ⟨nl y.natAbs - 1, by
    have : nl y.natAbs ≠ 0 := fun e => hy0 (by have := nl_spec y.natAbs; rw [e] at this; simp at this; omega)
    omega⟩
  have E0 := Lib.hid hq
  have hq1 : ¬ ((q : Int) + 1 = 0) := by omega
  clear hq hy0
  have hcs : s1 = true ∨ (s1 = false ∧ s2 = true) := by cases s1 <;> cases s2 <;> simp at hs ⊢
  clear hs
  rcases hcs with rfl | ⟨rfl, rfl⟩
  all_goals
    go_enter Try.func23, Try.ntmps23
    go_upto_region 1 with (fail)
    have hb := Below.refl w.heap.size w
    apply wp_region_lit
    refine wl_k rfl (fun K hK => ?_); go_simp; refine hK _ ?_; clear hK K
    refine wl_ck rfl (fun K hK => ?_); go_simp; refine ⟨_, _, ⟨rfl, rfl⟩, hK _ _ ⟨_, R1.out _, ?_⟩⟩; clear hK K; rintro e w1 ⟨A1, c1, rfl, i1, hb1⟩; refine ⟨_, rfl, ?_⟩; simp only [put_lit, List.set_cons_zero, List.set_cons_succ]
    replace hb := hb.trans (hb1.mono hb.size); clear hb1
    refine wl_k rfl (fun K hK => ?_); go_simp; refine hK _ ?_; clear hK K
    refine wl_k rfl (fun K hK => ?_); go_simp; refine hK _ ?_; clear hK K
    refine wl_k rfl (fun K hK => ?_); go_simp; refine hK _ ?_; clear hK K
    (have lsp14 := hb.size; (with_reducible apply wl_new84); intro w2 p14 hbn hlp14 hp14; replace i1 := i1.below hbn; replace hb := hb.trans (hbn.mono hb.size); clear hbn)
    ((with_reducible apply wl_putI); exact rfl; exact rfl; exact hp14; intro w3 hbx hk hq hi; replace i1 := hi _ _ _ i1; replace hb := hbx _ _ (by omega) hb; clear hp14; have hp14 := hq; clear hbx hk hq hi)
    go_upto_region 2 with (fail)
    apply wp_region_lit
    refine wl_k rfl (fun K hK => ?_); go_simp; refine hK _ ?_; clear hK K
    refine wl_ck rfl (fun K hK => ?_); go_simp; refine ⟨_, _, ⟨rfl, rfl⟩, hK _ _ ⟨_, R2.out _, ?_⟩⟩; clear hK K; rintro e w4 ⟨A2, c2, rfl, i2, hb1⟩; refine ⟨_, rfl, ?_⟩; simp only [put_lit, List.set_cons_zero, List.set_cons_succ]
    replace hp14 := below_look hb1 hp14; replace i1 := i1.below hb1; replace hb := hb.trans (hb1.mono hb.size); clear hb1
    refine wl_k rfl (fun K hK => ?_); go_simp; refine hK _ ?_; clear hK K
    refine wl_k rfl (fun K hK => ?_); go_simp; refine hK _ ?_; clear hK K
    refine wl_k rfl (fun K hK => ?_); go_simp; refine hK _ ?_; clear hK K
    (have lthp14p16 := heap_lt hp14; have lsp16 := hb.size; (with_reducible apply wl_new84); intro w5 p16 hbn hlp16 hp16; replace hp14 := below_look hbn hp14; replace i1 := i1.below hbn; replace i2 := i2.below hbn; replace hb := hb.trans (hbn.mono hb.size); clear hbn)
    ((with_reducible apply wl_putI); exact rfl; exact rfl; exact hp16; intro w6 hbx hk hq hi; replace hp14 := hk _ _ (by omega) hp14; replace i1 := hi _ _ _ i1; replace i2 := hi _ _ _ i2; replace hb := hbx _ _ (by omega) hb; clear hp16; have hp16 := hq; clear hbx hk hq hi)
    go_upto_region 5 with (fail)
    apply wp_region_lit
    refine wl_k rfl (fun K hK => ?_); go_simp; refine hK _ ?_; clear hK K
    refine wl_ck rfl (fun K hK => ?_); go_simp; refine ⟨_, _, ⟨rfl, rfl⟩, hK _ _ ⟨_, isWidth_any n true (Lib.hid hr.out.symm) _, ?_⟩⟩; clear hK K; rintro e w7 ⟨rfl, hb1⟩; refine ⟨_, rfl, ?_⟩; simp only [put_lit, List.set_cons_zero, List.set_cons_succ]
    replace hp14 := below_look hb1 hp14; replace hp16 := below_look hb1 hp16; replace i1 := i1.below hb1; replace i2 := i2.below hb1; replace hb := hb.trans (hb1.mono hb.size); clear hb1
    refine wl_k rfl (fun K hK => ?_); go_simp; refine hK _ ?_; clear hK K
    refine wl_k rfl (fun K hK => ?_); go_simp; refine hK _ ?_; clear hK K
    refine wl_k rfl (fun K hK => ?_); go_simp; refine hK _ ?_; clear hK K
    refine wl_ck rfl (fun K hK => ?_); go_simp; refine ⟨_, _, ⟨rfl, rfl⟩, hK _ _ ⟨_, isOpI_any op true (Lib.hid ho.out.symm) _, ?_⟩⟩; clear hK K; rintro e w8 ⟨rfl, hb1⟩; refine ⟨_, rfl, ?_⟩; simp only [put_lit, List.set_cons_zero, List.set_cons_succ]
    replace hp14 := below_look hb1 hp14; replace hp16 := below_look hb1 hp16; replace i1 := i1.below hb1; replace i2 := i2.below hb1; replace hb := hb.trans (hb1.mono hb.size); clear hb1
    refine wl_k rfl (fun K hK => ?_); go_simp; refine hK _ ?_; clear hK K
    refine wl_k rfl (fun K hK => ?_); go_simp; refine hK _ ?_; clear hK K
    refine wl_k rfl (fun K hK => ?_); go_simp; refine hK _ ?_; clear hK K
    refine wl_k rfl (fun K hK => ?_); go_simp; refine hK _ ?_; clear hK K
    refine wl_ck rfl (fun K hK => ?_); go_simp; refine ⟨_, _, ⟨rfl, rfl⟩, hK _ _ ⟨_, isModeI_any md true (Lib.hid hm.out.symm) _, ?_⟩⟩; clear hK K; rintro e w9 ⟨rfl, hb1⟩; refine ⟨_, rfl, ?_⟩; simp only [put_lit, List.set_cons_zero, List.set_cons_succ]
    replace hp14 := below_look hb1 hp14; replace hp16 := below_look hb1 hp16; replace i1 := i1.below hb1; replace i2 := i2.below hb1; replace hb := hb.trans (hb1.mono hb.size); clear hb1
    go_upto_region 8 with (fail)
    replace i1 := i1.below (Below.refl _ _).drew
    replace i2 := i2.below (Below.refl _ _).drew
    replace hb := hb.drew
    have gp16 := hp16
    refine wp_region_held_drew (S := Kept [] w9) mixed (Kept.drew [] w9) (fun hS => ?_)
    refine ha_val (i := 0) rfl (by kernel_rfl) (by kernel_rfl) (by kernel_rfl) (fun _ _ _ h => h) hS rfl (fun w' hw' => ex_row rfl (rowIv (hw'.look hp14 (by simp <;> omega)))) ?_; try simp only [put_lit, List.set_cons_zero, List.set_cons_succ]
    refine ha_k (i := 1) rfl (by kernel_rfl) (by kernel_rfl) (by kernel_rfl) (fun _ _ _ _ h => h) hS rfl (fun K hK => ?_); go_simp; refine hK _ ?_; clear hK K; try simp only [put_lit, List.set_cons_zero, List.set_cons_succ]
    refine ha_k (i := 2) rfl (by kernel_rfl) (by kernel_rfl) (by kernel_rfl) (fun _ _ _ _ h => h) hS rfl (fun K hK => ?_); go_simp; refine hK _ ?_; clear hK K; try simp only [put_lit, List.set_cons_zero, List.set_cons_succ]
    refine ha_call (i := 3) (by kernel_rfl) rfl rfl (fun K hK => ?_); go_simp; refine ⟨_, _, ⟨rfl, rfl⟩, hK _ _ ⟨_, withinI_any x n s A1 c1 n1 n2 _ i1 (by omega) true HR1, ?_⟩⟩; clear hK K; rintro e w10 ⟨rfl, hb1⟩; refine ⟨_, rfl, hS.below hb1, ?_⟩; replace hS := hS.below hb1; replace hp14 := below_look hb1 hp14; replace hp16 := below_look hb1 hp16; replace i1 := i1.below hb1; replace i2 := i2.below hb1; replace hb := hb.trans (hb1.mono hb.size); clear hb1; try simp only [put_lit, List.set_cons_zero, List.set_cons_succ]
    refine ha_k (i := 4) rfl (by kernel_rfl) (by kernel_rfl) (by kernel_rfl) (fun _ _ _ _ h => h) hS rfl (fun K hK => ?_); go_simp; refine hK _ ?_; clear hK K; try simp only [put_lit, List.set_cons_zero, List.set_cons_succ]
    refine ha_k (i := 5) rfl (by kernel_rfl) (by kernel_rfl) (by kernel_rfl) (fun _ _ _ _ h => h) hS rfl (fun K hK => ?_); go_simp; refine hK _ ?_; clear hK K; try simp only [put_lit, List.set_cons_zero, List.set_cons_succ]
    refine ha_val (i := 6) rfl (by kernel_rfl) (by kernel_rfl) (by kernel_rfl) (fun _ _ _ h => h) hS rfl (fun w' hw' => ex_row rfl (rowIv (hw'.look gp16 (by simp <;> omega)))) ?_; try simp only [put_lit, List.set_cons_zero, List.set_cons_succ]
    refine ha_k (i := 7) rfl (by kernel_rfl) (by kernel_rfl) (by kernel_rfl) (fun _ _ _ _ h => h) hS rfl (fun K hK => ?_); go_simp; refine hK _ ?_; clear hK K; try simp only [put_lit, List.set_cons_zero, List.set_cons_succ]
    refine ha_k (i := 8) rfl (by kernel_rfl) (by kernel_rfl) (by kernel_rfl) (fun _ _ _ _ h => h) hS rfl (fun K hK => ?_); go_simp; refine hK _ ?_; clear hK K; try simp only [put_lit, List.set_cons_zero, List.set_cons_succ]
    refine ha_call (i := 9) (by kernel_rfl) rfl rfl (fun K hK => ?_); go_simp; refine ⟨_, _, ⟨rfl, rfl⟩, hK _ _ ⟨_, withinI_any y n s A2 c2 n1 n2 _ i2 (by omega) true HR2, ?_⟩⟩; clear hK K; rintro e w11 ⟨rfl, hb1⟩; refine ⟨_, rfl, hS.below hb1, ?_⟩; replace hS := hS.below hb1; replace hp14 := below_look hb1 hp14; replace hp16 := below_look hb1 hp16; replace i1 := i1.below hb1; replace i2 := i2.below hb1; replace hb := hb.trans (hb1.mono hb.size); clear hb1; try simp only [put_lit, List.set_cons_zero, List.set_cons_succ]
    refine ha_k (i := 10) rfl (by kernel_rfl) (by kernel_rfl) (by kernel_rfl) (fun _ _ _ _ h => h) hS rfl (fun K hK => ?_); go_simp; refine hK _ ?_; clear hK K; try simp only [put_lit, List.set_cons_zero, List.set_cons_succ]
    refine ha_k (i := 11) rfl (by kernel_rfl) (by kernel_rfl) (by kernel_rfl) (fun _ _ _ _ h => h) hS rfl (fun K hK => ?_); go_simp; refine hK _ ?_; clear hK K; try simp only [put_lit, List.set_cons_zero, List.set_cons_succ]
    refine ha_k (i := 12) rfl (by kernel_rfl) (by kernel_rfl) (by kernel_rfl) (fun _ _ _ _ h => h) hS rfl (fun K hK => ?_); go_simp; refine hK _ ?_; clear hK K; try simp only [put_lit, List.set_cons_zero, List.set_cons_succ]
    refine ha_k (i := 13) rfl (by kernel_rfl) (by kernel_rfl) (by kernel_rfl) (fun _ _ _ _ h => h) hS rfl (fun K hK => ?_); go_simp; refine hK _ ?_; clear hK K; try simp only [put_lit, List.set_cons_zero, List.set_cons_succ]
    refine ha_k (i := 14) rfl (by kernel_rfl) (by kernel_rfl) (by kernel_rfl) (fun _ _ _ _ h => h) hS rfl (fun K hK => ?_); go_simp; refine hK _ ?_; clear hK K; try simp only [put_lit, List.set_cons_zero, List.set_cons_succ]
    refine ha_skip (i := 15) rfl (by kernel_rfl) (by kernel_rfl) (by kernel_rfl) (fun _ _ _ h => h) hS rfl ?_; simp only [List.getElem_toArray, List.getElem_cons_succ, List.getElem_cons_zero, put_lit, List.set_cons_zero, List.set_cons_succ]
    refine ha_skip (i := 16) rfl (by kernel_rfl) (by kernel_rfl) (by kernel_rfl) (fun _ _ _ h => h) hS rfl ?_; simp only [List.getElem_toArray, List.getElem_cons_succ, List.getElem_cons_zero, put_lit, List.set_cons_zero, List.set_cons_succ]
    refine ha_skip (i := 17) rfl (by kernel_rfl) (by kernel_rfl) (by kernel_rfl) (fun _ _ _ h => h) hS rfl ?_; simp only [List.getElem_toArray, List.getElem_cons_succ, List.getElem_cons_zero, put_lit, List.set_cons_zero, List.set_cons_succ]
    refine ha_skip (i := 18) rfl (by kernel_rfl) (by kernel_rfl) (by kernel_rfl) (fun _ _ _ h => h) hS rfl ?_; simp only [List.getElem_toArray, List.getElem_cons_succ, List.getElem_cons_zero, put_lit, List.set_cons_zero, List.set_cons_succ]
    refine ha_skip (i := 19) rfl (by kernel_rfl) (by kernel_rfl) (by kernel_rfl) (fun _ _ _ h => h) hS rfl ?_; simp only [List.getElem_toArray, List.getElem_cons_succ, List.getElem_cons_zero, put_lit, List.set_cons_zero, List.set_cons_succ]
    refine ha_skip (i := 20) rfl (by kernel_rfl) (by kernel_rfl) (by kernel_rfl) (fun _ _ _ h => h) hS rfl ?_; simp only [List.getElem_toArray, List.getElem_cons_succ, List.getElem_cons_zero, put_lit, List.set_cons_zero, List.set_cons_succ]
    refine ha_skip (i := 21) rfl (by kernel_rfl) (by kernel_rfl) (by kernel_rfl) (fun _ _ _ h => h) hS rfl ?_; simp only [List.getElem_toArray, List.getElem_cons_succ, List.getElem_cons_zero, put_lit, List.set_cons_zero, List.set_cons_succ]
    refine ha_skip (i := 22) rfl (by kernel_rfl) (by kernel_rfl) (by kernel_rfl) (fun _ _ _ h => h) hS rfl ?_; simp only [List.getElem_toArray, List.getElem_cons_succ, List.getElem_cons_zero, put_lit, List.set_cons_zero, List.set_cons_succ]
    refine ha_skip (i := 23) rfl (by kernel_rfl) (by kernel_rfl) (by kernel_rfl) (fun _ _ _ h => h) hS rfl ?_; simp only [List.getElem_toArray, List.getElem_cons_succ, List.getElem_cons_zero, put_lit, List.set_cons_zero, List.set_cons_succ]
    refine ha_skip (i := 24) rfl (by kernel_rfl) (by kernel_rfl) (by kernel_rfl) (fun _ _ _ h => h) hS rfl ?_; simp only [List.getElem_toArray, List.getElem_cons_succ, List.getElem_cons_zero, put_lit, List.set_cons_zero, List.set_cons_succ]
    refine ha_k (i := 25) rfl (by kernel_rfl) (by kernel_rfl) (by kernel_rfl) (fun _ _ _ _ h => h) hS rfl (fun K hK => ?_); go_simp; refine hK _ ?_; clear hK K; try simp only [put_lit, List.set_cons_zero, List.set_cons_succ]
    refine ha_k (i := 26) rfl (by kernel_rfl) (by kernel_rfl) (by kernel_rfl) (fun _ _ _ _ h => h) hS rfl (fun K hK => ?_); go_simp; refine hK _ ?_; clear hK K; try simp only [put_lit, List.set_cons_zero, List.set_cons_succ]
    refine wpAnyH_done (by kernel_rfl) ?_ _
    have yc := iv1 hp16
    rw [E0.out] at yc
    go_upto_region 12 with (fail)
    apply wp_region_lit
    refine wl_k rfl (fun K hK => ?_); go_simp; refine hK _ ?_; clear hK K
    ((with_reducible apply wl_rowG); exact rfl; exact rfl; exact rowIv hp14)
    ((with_reducible apply wl_rowG); exact rfl; exact rfl; exact rowIv hp16)
    refine wl_k rfl (fun K hK => ?_); go_simp; refine hK _ ?_; clear hK K
    refine wl_k rfl (fun K hK => ?_); go_simp; refine hK _ ?_; clear hK K
    refine wl_ck rfl (fun K hK => ?_); go_simp; refine ⟨_, _, ⟨rfl, rfl⟩, hK _ _ ⟨_, HEX.out _ _ _ _ _ i1 i2, ?_⟩⟩; clear hK K; rintro e v1 ⟨A4, c4, rfl, i4, hb1⟩; refine ⟨_, rfl, ?_⟩; simp only [put_lit, List.set_cons_zero, List.set_cons_succ]
    clear i1 i2
    replace hb := hb.trans (hb1.mono hb.size); clear hb1
    refine wl_k rfl (fun K hK => ?_); go_simp; refine hK _ ?_; clear hK K
    refine wl_k rfl (fun K hK => ?_); go_simp; refine hK _ ?_; clear hK K
    refine wl_k rfl (fun K hK => ?_); go_simp; refine hK _ ?_; clear hK K
    refine wl_ck rfl (fun K hK => ?_); go_simp; refine ⟨_, _, ⟨rfl, rfl⟩, hK _ _ ⟨_, broughtI_any z n s md A4 c4 n1 n2 _ i4 (by have := nz.out; omega) hm r er HB, ?_⟩⟩; clear hK K; rintro e v2 ⟨A5, c5, rfl, i5, hb1⟩; refine ⟨_, rfl, ?_⟩; simp only [put_lit, List.set_cons_zero, List.set_cons_succ]
    clear i4
    replace hb := hb.trans (hb1.mono hb.size); clear hb1
    refine wl_k rfl (fun K hK => ?_); go_simp; refine hK _ ?_; clear hK K
    refine wl_k rfl (fun K hK => ?_); go_simp; refine hK _ ?_; clear hK K
    refine wl_k rfl (fun K hK => ?_); go_simp; refine hK _ ?_; clear hK K
    (have lsp19 := hb.size; (with_reducible apply wl_new84); intro v3 p19 hbn hlp19 hp19; replace i5 := i5.below hbn; replace hb := hb.trans (hbn.mono hb.size); clear hbn)
    ((with_reducible apply wl_putI); exact rfl; exact rfl; exact hp19; intro v4 hbx hk hq hi; replace i5 := hi _ _ _ i5; replace hb := hbx _ _ (by omega) hb; clear hp19; have hp19 := hq; clear hbx hk hq hi)
    by_cases he : er = 0
    · have HR := Lib.hid (HR0.out he)
      subst he
      go_upto_region 15 with (fail)
      apply wp_region_lit
      ((with_reducible apply wl_rowG); exact rfl; exact rfl; exact rowIv hp19)
      refine wl_ck rfl (fun K hK => ?_); go_simp; refine ⟨_, _, ⟨rfl, rfl⟩, hK _ _ ⟨_, TextI_any r A5 c5 _ i5 rn.out rb.out, ?_⟩⟩; clear hK K; rintro e v5 ⟨rfl, hb1⟩; refine ⟨_, rfl, ?_⟩; simp only [put_lit, List.set_cons_zero, List.set_cons_succ]
      replace hb := hb.trans (hb1.mono hb.size); clear hb1
      go_wp2_with fail
      exact bodyPost_ret (results_tmp2 rfl _ _ _) rfl ⟨by rw [HR.out]; rfl, hb⟩
    · have HR := Lib.hid (HR1'.out he)
      go_wp2_with fail
      exact bodyPost_ret (results_tmp2 rfl _ _ _) rfl ⟨by rw [HR.out]; rfl, hb⟩
set_option maxHeartbeats 4000000 in
set_option maxRecDepth 100000 in
theorem DoI_sh (op a b md : ByteArray) (n : Int) (s : Bool) (x y : Int) (hx : rdm a = some x) (hy : rdm b = some y) (hr : Hid (isRight n = true)) (ho : Hid (isOpL op.data.toList = true)) (hm : Hid (isModeL md.data.toList = true)) (HR1 : Hid (hasW n.toNat s x = true)) (HR2 : Hid (hasW n.toNat s y = true)) (z r er : Int) (HEX : Hid (∀ (A A' : Option Addr) (c c' : Nat) (w : World), IvAt w x A c → IvAt w y A' c' → Calls Try.prog 70 #[.string op, .agg (iv x A c), .agg (iv y A' c'), .int .i64 n, .bool s] w fun e w' => ∃ A2 c2, e = .returned (.agg (iv z A2 c2)) ∧ IvAt w' z A2 c2 ∧ Below w.heap.size w w')) (nz : Hid (nl z.natAbs ≤ 7)) (HB : Hid (bringW n.toNat s md.toList z = (r, er))) (T : ByteArray) (HR0 : Hid (er = 0 → T = ⟨(txt r).toArray⟩)) (HR1' : Hid (er ≠ 0 → T = ⟨#[]⟩)) (HN : Hid (ng y = false)) (C : Int) (HC : Hid (cz y (n - 1) = C)) (hC : ¬ 0 < C) (s1 s2 : Bool) (hs : (s1 || s2) = true) (l1 : (op.toList == [60, 60]) = s1) (l2 : (op.toList == [62, 62]) = s2) (l3 : (op.toList == [47]) = false) (l4 : (op.toList == [37]) = false) (w : World) :
    Calls Try.prog 23 #[.string op, .string a, .string b, .int .i64 n, .bool s, .string md] w fun e w' => e = .returned (.tuple #[.string T, .int .i64 er]) ∧ Below w.heap.size w w' := by
  have rb : Hid (r.natAbs < 10 ^ 64) := Lib.hid (small64 (by have := bring_bd hr.out HB.out; omega))
  have rn : Hid (nl r.natAbs ≤ 400) := Lib.hid (by
    have h := nl_le r.natAbs 7 (Nat.lt_trans rb.out (by rw [B_eq]; decide))
    omega)
  have nx : nl x.natAbs ≤ 5 := by have := rdm_nl (m := a); rw [hx] at this; exact this
  have ny : nl y.natAbs ≤ 5 := by have := rdm_nl (m := b); rw [hy] at this; exact this
  obtain ⟨k0, hk0, k1, k2, k3⟩ := right_bits hr.out
  have n1 : 1 ≤ n := by omega
  have n2 : n ≤ 64 := by omega
  have hwr : IntKind.i64.wrap (n - 1) = n - 1 := IntWalk.i64_in _ (by omega)
  clear hk0 k1 k2 k3
  have R1 := Lib.hid (ReadI_any a)
  have R2 := Lib.hid (ReadI_any b)
  rw [hx] at R1
  rw [hy] at R2
  simp only [Option.getD_some, Option.isSome_some] at R1 R2
  clear hx hy
  have hcs : s1 = true ∨ (s1 = false ∧ s2 = true) := by cases s1 <;> cases s2 <;> simp at hs ⊢
  clear hs
  rcases hcs with rfl | ⟨rfl, rfl⟩
  all_goals
    go_enter Try.func23, Try.ntmps23
    go_upto_region 1 with (fail)
    have hb := Below.refl w.heap.size w
    apply wp_region_lit
    refine wl_k rfl (fun K hK => ?_); go_simp; refine hK _ ?_; clear hK K
    refine wl_ck rfl (fun K hK => ?_); go_simp; refine ⟨_, _, ⟨rfl, rfl⟩, hK _ _ ⟨_, R1.out _, ?_⟩⟩; clear hK K; rintro e w1 ⟨A1, c1, rfl, i1, hb1⟩; refine ⟨_, rfl, ?_⟩; simp only [put_lit, List.set_cons_zero, List.set_cons_succ]
    replace hb := hb.trans (hb1.mono hb.size); clear hb1
    refine wl_k rfl (fun K hK => ?_); go_simp; refine hK _ ?_; clear hK K
    refine wl_k rfl (fun K hK => ?_); go_simp; refine hK _ ?_; clear hK K
    refine wl_k rfl (fun K hK => ?_); go_simp; refine hK _ ?_; clear hK K
    (have lsp14 := hb.size; (with_reducible apply wl_new84); intro w2 p14 hbn hlp14 hp14; replace i1 := i1.below hbn; replace hb := hb.trans (hbn.mono hb.size); clear hbn)
    ((with_reducible apply wl_putI); exact rfl; exact rfl; exact hp14; intro w3 hbx hk hq hi; replace i1 := hi _ _ _ i1; replace hb := hbx _ _ (by omega) hb; clear hp14; have hp14 := hq; clear hbx hk hq hi)
    go_upto_region 2 with (fail)
    apply wp_region_lit
    refine wl_k rfl (fun K hK => ?_); go_simp; refine hK _ ?_; clear hK K
    refine wl_ck rfl (fun K hK => ?_); go_simp; refine ⟨_, _, ⟨rfl, rfl⟩, hK _ _ ⟨_, R2.out _, ?_⟩⟩; clear hK K; rintro e w4 ⟨A2, c2, rfl, i2, hb1⟩; refine ⟨_, rfl, ?_⟩; simp only [put_lit, List.set_cons_zero, List.set_cons_succ]
    replace hp14 := below_look hb1 hp14; replace i1 := i1.below hb1; replace hb := hb.trans (hb1.mono hb.size); clear hb1
    refine wl_k rfl (fun K hK => ?_); go_simp; refine hK _ ?_; clear hK K
    refine wl_k rfl (fun K hK => ?_); go_simp; refine hK _ ?_; clear hK K
    refine wl_k rfl (fun K hK => ?_); go_simp; refine hK _ ?_; clear hK K
    (have lthp14p16 := heap_lt hp14; have lsp16 := hb.size; (with_reducible apply wl_new84); intro w5 p16 hbn hlp16 hp16; replace hp14 := below_look hbn hp14; replace i1 := i1.below hbn; replace i2 := i2.below hbn; replace hb := hb.trans (hbn.mono hb.size); clear hbn)
    ((with_reducible apply wl_putI); exact rfl; exact rfl; exact hp16; intro w6 hbx hk hq hi; replace hp14 := hk _ _ (by omega) hp14; replace i1 := hi _ _ _ i1; replace i2 := hi _ _ _ i2; replace hb := hbx _ _ (by omega) hb; clear hp16; have hp16 := hq; clear hbx hk hq hi)
    go_upto_region 5 with (fail)
    apply wp_region_lit
    refine wl_k rfl (fun K hK => ?_); go_simp; refine hK _ ?_; clear hK K
    refine wl_ck rfl (fun K hK => ?_); go_simp; refine ⟨_, _, ⟨rfl, rfl⟩, hK _ _ ⟨_, isWidth_any n true (Lib.hid hr.out.symm) _, ?_⟩⟩; clear hK K; rintro e w7 ⟨rfl, hb1⟩; refine ⟨_, rfl, ?_⟩; simp only [put_lit, List.set_cons_zero, List.set_cons_succ]
    replace hp14 := below_look hb1 hp14; replace hp16 := below_look hb1 hp16; replace i1 := i1.below hb1; replace i2 := i2.below hb1; replace hb := hb.trans (hb1.mono hb.size); clear hb1
    refine wl_k rfl (fun K hK => ?_); go_simp; refine hK _ ?_; clear hK K
    refine wl_k rfl (fun K hK => ?_); go_simp; refine hK _ ?_; clear hK K
    refine wl_k rfl (fun K hK => ?_); go_simp; refine hK _ ?_; clear hK K
    refine wl_ck rfl (fun K hK => ?_); go_simp; refine ⟨_, _, ⟨rfl, rfl⟩, hK _ _ ⟨_, isOpI_any op true (Lib.hid ho.out.symm) _, ?_⟩⟩; clear hK K; rintro e w8 ⟨rfl, hb1⟩; refine ⟨_, rfl, ?_⟩; simp only [put_lit, List.set_cons_zero, List.set_cons_succ]
    replace hp14 := below_look hb1 hp14; replace hp16 := below_look hb1 hp16; replace i1 := i1.below hb1; replace i2 := i2.below hb1; replace hb := hb.trans (hb1.mono hb.size); clear hb1
    refine wl_k rfl (fun K hK => ?_); go_simp; refine hK _ ?_; clear hK K
    refine wl_k rfl (fun K hK => ?_); go_simp; refine hK _ ?_; clear hK K
    refine wl_k rfl (fun K hK => ?_); go_simp; refine hK _ ?_; clear hK K
    refine wl_k rfl (fun K hK => ?_); go_simp; refine hK _ ?_; clear hK K
    refine wl_ck rfl (fun K hK => ?_); go_simp; refine ⟨_, _, ⟨rfl, rfl⟩, hK _ _ ⟨_, isModeI_any md true (Lib.hid hm.out.symm) _, ?_⟩⟩; clear hK K; rintro e w9 ⟨rfl, hb1⟩; refine ⟨_, rfl, ?_⟩; simp only [put_lit, List.set_cons_zero, List.set_cons_succ]
    replace hp14 := below_look hb1 hp14; replace hp16 := below_look hb1 hp16; replace i1 := i1.below hb1; replace i2 := i2.below hb1; replace hb := hb.trans (hb1.mono hb.size); clear hb1
    go_upto_region 8 with (fail)
    replace i1 := i1.below (Below.refl _ _).drew
    replace i2 := i2.below (Below.refl _ _).drew
    replace hb := hb.drew
    have gp16 := hp16
    refine wp_region_held_drew (S := Kept [] w9) mixed (Kept.drew [] w9) (fun hS => ?_)
    refine ha_val (i := 0) rfl (by kernel_rfl) (by kernel_rfl) (by kernel_rfl) (fun _ _ _ h => h) hS rfl (fun w' hw' => ex_row rfl (rowIv (hw'.look hp14 (by simp <;> omega)))) ?_; try simp only [put_lit, List.set_cons_zero, List.set_cons_succ]
    refine ha_k (i := 1) rfl (by kernel_rfl) (by kernel_rfl) (by kernel_rfl) (fun _ _ _ _ h => h) hS rfl (fun K hK => ?_); go_simp; refine hK _ ?_; clear hK K; try simp only [put_lit, List.set_cons_zero, List.set_cons_succ]
    refine ha_k (i := 2) rfl (by kernel_rfl) (by kernel_rfl) (by kernel_rfl) (fun _ _ _ _ h => h) hS rfl (fun K hK => ?_); go_simp; refine hK _ ?_; clear hK K; try simp only [put_lit, List.set_cons_zero, List.set_cons_succ]
    refine ha_call (i := 3) (by kernel_rfl) rfl rfl (fun K hK => ?_); go_simp; refine ⟨_, _, ⟨rfl, rfl⟩, hK _ _ ⟨_, withinI_any x n s A1 c1 n1 n2 _ i1 (by omega) true HR1, ?_⟩⟩; clear hK K; rintro e w10 ⟨rfl, hb1⟩; refine ⟨_, rfl, hS.below hb1, ?_⟩; replace hS := hS.below hb1; replace hp14 := below_look hb1 hp14; replace hp16 := below_look hb1 hp16; replace i1 := i1.below hb1; replace i2 := i2.below hb1; replace hb := hb.trans (hb1.mono hb.size); clear hb1; try simp only [put_lit, List.set_cons_zero, List.set_cons_succ]
    refine ha_k (i := 4) rfl (by kernel_rfl) (by kernel_rfl) (by kernel_rfl) (fun _ _ _ _ h => h) hS rfl (fun K hK => ?_); go_simp; refine hK _ ?_; clear hK K; try simp only [put_lit, List.set_cons_zero, List.set_cons_succ]
    refine ha_k (i := 5) rfl (by kernel_rfl) (by kernel_rfl) (by kernel_rfl) (fun _ _ _ _ h => h) hS rfl (fun K hK => ?_); go_simp; refine hK _ ?_; clear hK K; try simp only [put_lit, List.set_cons_zero, List.set_cons_succ]
    refine ha_val (i := 6) rfl (by kernel_rfl) (by kernel_rfl) (by kernel_rfl) (fun _ _ _ h => h) hS rfl (fun w' hw' => ex_row rfl (rowIv (hw'.look gp16 (by simp <;> omega)))) ?_; try simp only [put_lit, List.set_cons_zero, List.set_cons_succ]
    refine ha_k (i := 7) rfl (by kernel_rfl) (by kernel_rfl) (by kernel_rfl) (fun _ _ _ _ h => h) hS rfl (fun K hK => ?_); go_simp; refine hK _ ?_; clear hK K; try simp only [put_lit, List.set_cons_zero, List.set_cons_succ]
    refine ha_k (i := 8) rfl (by kernel_rfl) (by kernel_rfl) (by kernel_rfl) (fun _ _ _ _ h => h) hS rfl (fun K hK => ?_); go_simp; refine hK _ ?_; clear hK K; try simp only [put_lit, List.set_cons_zero, List.set_cons_succ]
    refine ha_call (i := 9) (by kernel_rfl) rfl rfl (fun K hK => ?_); go_simp; refine ⟨_, _, ⟨rfl, rfl⟩, hK _ _ ⟨_, withinI_any y n s A2 c2 n1 n2 _ i2 (by omega) true HR2, ?_⟩⟩; clear hK K; rintro e w11 ⟨rfl, hb1⟩; refine ⟨_, rfl, hS.below hb1, ?_⟩; replace hS := hS.below hb1; replace hp14 := below_look hb1 hp14; replace hp16 := below_look hb1 hp16; replace i1 := i1.below hb1; replace i2 := i2.below hb1; replace hb := hb.trans (hb1.mono hb.size); clear hb1; try simp only [put_lit, List.set_cons_zero, List.set_cons_succ]
    refine ha_k (i := 10) rfl (by kernel_rfl) (by kernel_rfl) (by kernel_rfl) (fun _ _ _ _ h => h) hS rfl (fun K hK => ?_); go_simp; refine hK _ ?_; clear hK K; try simp only [put_lit, List.set_cons_zero, List.set_cons_succ]
    refine ha_k (i := 11) rfl (by kernel_rfl) (by kernel_rfl) (by kernel_rfl) (fun _ _ _ _ h => h) hS rfl (fun K hK => ?_); go_simp; refine hK _ ?_; clear hK K; try simp only [put_lit, List.set_cons_zero, List.set_cons_succ]
    refine ha_k (i := 12) rfl (by kernel_rfl) (by kernel_rfl) (by kernel_rfl) (fun _ _ _ _ h => h) hS rfl (fun K hK => ?_); go_simp; refine hK _ ?_; clear hK K; try simp only [put_lit, List.set_cons_zero, List.set_cons_succ]
    have y0 := iv0 gp16
    rw [HN.out] at y0
    refine ha_k (i := 13) rfl (by kernel_rfl) (by kernel_rfl) (by kernel_rfl) (fun _ _ _ _ h => h) hS rfl (fun K hK => ?_); go_simp; refine hK _ ?_; clear hK K; try simp only [put_lit, List.set_cons_zero, List.set_cons_succ]
    refine ha_k (i := 14) rfl (by kernel_rfl) (by kernel_rfl) (by kernel_rfl) (fun _ _ _ _ h => h) hS rfl (fun K hK => ?_); go_simp; refine hK _ ?_; clear hK K; try simp only [put_lit, List.set_cons_zero, List.set_cons_succ]
    refine ha_k (i := 15) rfl (by kernel_rfl) (by kernel_rfl) (by kernel_rfl) (fun _ _ _ _ h => h) hS rfl (fun K hK => ?_); go_simp; refine hK _ ?_; clear hK K; try simp only [put_lit, List.set_cons_zero, List.set_cons_succ]
    refine ha_val (i := 16) rfl (by kernel_rfl) (by kernel_rfl) (by kernel_rfl) (fun _ _ _ h => h) hS rfl (fun w' hw' => ex_one rfl (one4 (hw'.cell y0 (by simp <;> omega)))) ?_; try simp only [put_lit, List.set_cons_zero, List.set_cons_succ]
    refine ha_k (i := 17) rfl (by kernel_rfl) (by kernel_rfl) (by kernel_rfl) (fun _ _ _ _ h => h) hS rfl (fun K hK => ?_); go_simp; refine hK _ ?_; clear hK K; try simp only [put_lit, List.set_cons_zero, List.set_cons_succ]
    refine ha_val (i := 18) rfl (by kernel_rfl) (by kernel_rfl) (by kernel_rfl) (fun _ _ _ h => h) hS rfl (fun w' hw' => ex_row rfl (rowIv (hw'.look gp16 (by simp <;> omega)))) ?_; try simp only [put_lit, List.set_cons_zero, List.set_cons_succ]
    refine ha_k (i := 19) rfl (by kernel_rfl) (by kernel_rfl) (by kernel_rfl) (fun _ _ _ _ h => h) hS rfl (fun K hK => ?_); go_simp; refine hK _ ?_; clear hK K; try simp only [put_lit, List.set_cons_zero, List.set_cons_succ]
    refine ha_k (i := 20) rfl (by kernel_rfl) (by kernel_rfl) (by kernel_rfl) (fun _ _ _ _ h => h) hS rfl (fun K hK => ?_); go_simp; refine hK _ ?_; clear hK K; try simp only [put_lit, List.set_cons_zero, List.set_cons_succ]
    refine ha_call (i := 21) (by kernel_rfl) rfl rfl (fun K hK => ?_); go_simp; refine ⟨_, _, ⟨rfl, rfl⟩, hK _ _ ⟨_, Of_any (n - 1) (by omega) (by omega) _, ?_⟩⟩; clear hK K; rintro e w12 ⟨A3, c3, rfl, i3, hb1⟩; refine ⟨_, rfl, hS.below hb1, ?_⟩; replace hS := hS.below hb1; replace hp14 := below_look hb1 hp14; replace hp16 := below_look hb1 hp16; replace i1 := i1.below hb1; replace i2 := i2.below hb1; replace hb := hb.trans (hb1.mono hb.size); clear hb1; try simp only [put_lit, List.set_cons_zero, List.set_cons_succ]
    refine ha_call (i := 22) (by kernel_rfl) rfl rfl (fun K hK => ?_); go_simp; refine ⟨_, _, ⟨rfl, rfl⟩, hK _ _ ⟨_, CmpI_any y (n - 1) _ _ _ _ _ i2 i3 (by omega), ?_⟩⟩; clear hK K; rintro e w13 ⟨rfl, hb1⟩; refine ⟨_, rfl, hS.below hb1, ?_⟩; replace hS := hS.below hb1; replace hp14 := below_look hb1 hp14; replace hp16 := below_look hb1 hp16; replace i1 := i1.below hb1; replace i2 := i2.below hb1; replace hb := hb.trans (hb1.mono hb.size); clear hb1; try simp only [put_lit, List.set_cons_zero, List.set_cons_succ]
    rw [HC.out]
    refine ha_k (i := 23) rfl (by kernel_rfl) (by kernel_rfl) (by kernel_rfl) (fun _ _ _ _ h => h) hS rfl (fun K hK => ?_); go_simp; refine hK _ ?_; clear hK K; try simp only [put_lit, List.set_cons_zero, List.set_cons_succ]
    refine ha_k (i := 24) rfl (by kernel_rfl) (by kernel_rfl) (by kernel_rfl) (fun _ _ _ _ h => h) hS rfl (fun K hK => ?_); go_simp; refine hK _ ?_; clear hK K; try simp only [put_lit, List.set_cons_zero, List.set_cons_succ]
    refine ha_k (i := 25) rfl (by kernel_rfl) (by kernel_rfl) (by kernel_rfl) (fun _ _ _ _ h => h) hS rfl (fun K hK => ?_); go_simp; refine hK _ ?_; clear hK K; try simp only [put_lit, List.set_cons_zero, List.set_cons_succ]
    refine ha_k (i := 26) rfl (by kernel_rfl) (by kernel_rfl) (by kernel_rfl) (fun _ _ _ _ h => h) hS rfl (fun K hK => ?_); go_simp; refine hK _ ?_; clear hK K; try simp only [put_lit, List.set_cons_zero, List.set_cons_succ]
    refine wpAnyH_done (by kernel_rfl) ?_ _
    go_upto_region 12 with (fail)
    apply wp_region_lit
    refine wl_k rfl (fun K hK => ?_); go_simp; refine hK _ ?_; clear hK K
    ((with_reducible apply wl_rowG); exact rfl; exact rfl; exact rowIv hp14)
    ((with_reducible apply wl_rowG); exact rfl; exact rfl; exact rowIv hp16)
    refine wl_k rfl (fun K hK => ?_); go_simp; refine hK _ ?_; clear hK K
    refine wl_k rfl (fun K hK => ?_); go_simp; refine hK _ ?_; clear hK K
    refine wl_ck rfl (fun K hK => ?_); go_simp; refine ⟨_, _, ⟨rfl, rfl⟩, hK _ _ ⟨_, HEX.out _ _ _ _ _ i1 i2, ?_⟩⟩; clear hK K; rintro e v1 ⟨A4, c4, rfl, i4, hb1⟩; refine ⟨_, rfl, ?_⟩; simp only [put_lit, List.set_cons_zero, List.set_cons_succ]
    clear i1 i2
    replace hb := hb.trans (hb1.mono hb.size); clear hb1
    refine wl_k rfl (fun K hK => ?_); go_simp; refine hK _ ?_; clear hK K
    refine wl_k rfl (fun K hK => ?_); go_simp; refine hK _ ?_; clear hK K
    refine wl_k rfl (fun K hK => ?_); go_simp; refine hK _ ?_; clear hK K
    refine wl_ck rfl (fun K hK => ?_); go_simp; refine ⟨_, _, ⟨rfl, rfl⟩, hK _ _ ⟨_, broughtI_any z n s md A4 c4 n1 n2 _ i4 (by have := nz.out; omega) hm r er HB, ?_⟩⟩; clear hK K; rintro e v2 ⟨A5, c5, rfl, i5, hb1⟩; refine ⟨_, rfl, ?_⟩; simp only [put_lit, List.set_cons_zero, List.set_cons_succ]
    clear i4
    replace hb := hb.trans (hb1.mono hb.size); clear hb1
    refine wl_k rfl (fun K hK => ?_); go_simp; refine hK _ ?_; clear hK K
    refine wl_k rfl (fun K hK => ?_); go_simp; refine hK _ ?_; clear hK K
    refine wl_k rfl (fun K hK => ?_); go_simp; refine hK _ ?_; clear hK K
    (have lsp19 := hb.size; (with_reducible apply wl_new84); intro v3 p19 hbn hlp19 hp19; replace i5 := i5.below hbn; replace hb := hb.trans (hbn.mono hb.size); clear hbn)
    ((with_reducible apply wl_putI); exact rfl; exact rfl; exact hp19; intro v4 hbx hk hq hi; replace i5 := hi _ _ _ i5; replace hb := hbx _ _ (by omega) hb; clear hp19; have hp19 := hq; clear hbx hk hq hi)
    by_cases he : er = 0
    · have HR := Lib.hid (HR0.out he)
      subst he
      go_upto_region 15 with (fail)
      apply wp_region_lit
      ((with_reducible apply wl_rowG); exact rfl; exact rfl; exact rowIv hp19)
      refine wl_ck rfl (fun K hK => ?_); go_simp; refine ⟨_, _, ⟨rfl, rfl⟩, hK _ _ ⟨_, TextI_any r A5 c5 _ i5 rn.out rb.out, ?_⟩⟩; clear hK K; rintro e v5 ⟨rfl, hb1⟩; refine ⟨_, rfl, ?_⟩; simp only [put_lit, List.set_cons_zero, List.set_cons_succ]
      replace hb := hb.trans (hb1.mono hb.size); clear hb1
      go_wp2_with fail
      exact bodyPost_ret (results_tmp2 rfl _ _ _) rfl ⟨by rw [HR.out]; rfl, hb⟩
    · have HR := Lib.hid (HR1'.out he)
      go_wp2_with fail
      exact bodyPost_ret (results_tmp2 rfl _ _ _) rfl ⟨by rw [HR.out]; rfl, hb⟩
theorem cz_pos {a b : Int} : 0 < cz a b ↔ b < a := by rw [cz_def]; split <;> (try split) <;> omega
theorem DoI_any (op a b md : ByteArray) (bits : Int) (s : Bool) (t : ByteArray) (er : Int) (h : Hid (doS op a b bits s md = (t, er))) (w : World) :
    Calls Try.prog 23 #[.string op, .string a, .string b, .int .i64 bits, .bool s, .string md] w fun e w' => e = .returned (.tuple #[.string t, .int .i64 er]) ∧ Below w.heap.size w w' := by
  have h := h.out
  unfold doS at h
  cases hx : rdm a with
  | none =>
    rw [hx] at h
    simp only [Prod.mk.injEq] at h
    obtain ⟨rfl, rfl⟩ := h
    exact DoI_form1 op a b md bits s hx w
  | some x =>
    cases hy : rdm b with
    | none =>
      rw [hx, hy] at h
      simp only [Prod.mk.injEq] at h
      obtain ⟨rfl, rfl⟩ := h
      exact DoI_form2 op a b md bits s x hx hy w
    | some y =>
      rw [hx, hy] at h
      simp only at h
      by_cases hr : isRight bits = true
      rotate_left
      · rw [if_neg (fun h => hr h.1)] at h
        simp only [Prod.mk.injEq] at h
        obtain ⟨rfl, rfl⟩ := h
        exact DoI_name1 op a b md bits s x y hx hy (Lib.hid (by simpa using hr)) w
      by_cases ho : isOpL op.data.toList = true
      rotate_left
      · rw [if_neg (fun h => ho h.2.2)] at h
        simp only [Prod.mk.injEq] at h
        obtain ⟨rfl, rfl⟩ := h
        exact DoI_name2 op a b md bits s x y hx hy (Lib.hid hr) (Lib.hid (by simpa using ho)) w
      by_cases hm : isModeL md.data.toList = true
      rotate_left
      · rw [if_neg (fun h => hm h.2.1)] at h
        simp only [Prod.mk.injEq] at h
        obtain ⟨rfl, rfl⟩ := h
        exact DoI_name3 op a b md bits s x y hx hy (Lib.hid hr) (Lib.hid ho) (Lib.hid (by simpa using hm)) w
      rw [if_pos ⟨hr, hm, ho⟩] at h
      have hsh : isShift op.data.toList = ((op.toList == [60, 60]) || (op.toList == [62, 62])) := by rw [ByteArray.toList_eq]; rfl
      by_cases hhx : hasI bits s x = true
      rotate_left
      · rw [if_neg (fun h => hhx h.1)] at h
        simp only [Prod.mk.injEq] at h
        obtain ⟨rfl, rfl⟩ := h
        exact DoI_range1 op a b md bits s x y hx hy (Lib.hid hr) (Lib.hid ho) (Lib.hid hm) (Lib.hid (by unfold hasI at hhx; simpa using hhx)) _ _ rfl rfl w
      by_cases hhy : hasI bits s y = true
      rotate_left
      · rw [if_neg (fun h => hhy h.2.1)] at h
        simp only [Prod.mk.injEq] at h
        obtain ⟨rfl, rfl⟩ := h
        exact DoI_range2 op a b md bits s x y hx hy (Lib.hid hr) (Lib.hid ho) (Lib.hid hm) (Lib.hid hhx) (Lib.hid (by unfold hasI at hhy; simpa using hhy)) _ _ rfl rfl w
      have bx := hasI_bd hr hhx
      have bY := hasI_bd hr hhy
      by_cases hq : isShift op.data.toList = true ∧ (ng y = true ∨ bits ≤ y)
      · rw [if_neg (fun h => h.2.2 hq)] at h
        simp only [Prod.mk.injEq] at h
        obtain ⟨rfl, rfl⟩ := h
        by_cases hn : ng y = true
        · exact DoI_range3 op a b md bits s x y hx hy (Lib.hid hr) (Lib.hid ho) (Lib.hid hm) (Lib.hid hhx) (Lib.hid hhy) (Lib.hid hn) _ _ (by rw [← hsh]; exact hq.1) rfl rfl w
        · exact DoI_range4 op a b md bits s x y hx hy (Lib.hid hr) (Lib.hid ho) (Lib.hid hm) (Lib.hid hhx) (Lib.hid hhy) (Lib.hid (by simpa using hn)) _ (Lib.hid rfl) (cz_pos.2 (by have := hq.2.resolve_left hn; omega)) _ _ (by rw [← hsh]; exact hq.1) rfl rfl w
      rw [if_pos ⟨hhx, hhy, hq⟩] at h
      have hl (l : List UInt8) : (op.toList == l) = decide (op.data.toList = l) := by rw [ByteArray.toList_eq, Bool.eq_iff_iff]; simp
      by_cases hz : (op.data.toList = [47] ∨ op.data.toList = [37]) ∧ y = 0
      · rw [if_pos hz] at h
        simp only [Prod.mk.injEq] at h
        obtain ⟨rfl, rfl⟩ := h
        obtain ⟨hz, rfl⟩ := hz
        rcases hz with hz | hz
        · exact DoI_zero op a b md bits s x hx hy (Lib.hid hr) (Lib.hid ho) (Lib.hid hm) (Lib.hid hhx) (Lib.hid hhy) true _ rfl (lit_eq hz rfl) (lit_eq hz rfl) (lit_eq hz rfl) rfl w
        · exact DoI_zero op a b md bits s x hx hy (Lib.hid hr) (Lib.hid ho) (Lib.hid hm) (Lib.hid hhx) (Lib.hid hhy) false true rfl (lit_eq hz rfl) (lit_eq hz rfl) (lit_eq hz rfl) (lit_eq hz rfl) w
      rw [if_neg hz] at h
      have hs1 : isShift op.data.toList = true → ng y = false ∧ y < bits := fun hi => by
        have : ¬ (ng y = true ∨ bits ≤ y) := fun h => hq ⟨hi, h⟩
        cases hn : ng y
        · exact ⟨rfl, by omega⟩
        · exact absurd (Or.inl hn) this
      obtain ⟨n, hn, n1, n2, n3⟩ := right_bits hr
      have hs0 : isShift op.data.toList = true → 0 ≤ y ∧ y ≤ 64 := fun hi => by
        have := hs1 hi
        rw [ng_def] at this
        have h0 := of_decide_eq_false this.1
        omega
      have hd : op.data.toList = [47] ∨ op.data.toList = [37] → y ≠ 0 := fun hi e => hz ⟨hi, e⟩
      have EX : ∀ (A A' : Option Addr) (c c' : Nat) (w : World), IvAt w x A c → IvAt w y A' c' → Calls Try.prog 70 #[.string op, .agg (iv x A c), .agg (iv y A' c'), .int .i64 bits, .bool s] w fun e w' => ∃ A2 c2, e = .returned (.agg (iv (doX op.data.toList bits.toNat s x y) A2 c2)) ∧ IvAt w' (doX op.data.toList bits.toNat s x y) A2 c2 ∧ Below w.heap.size w w' := fun A A' c c' w hI hJ => by
        rw [n3, hn]
        exact exactI_any op n s x y A A' c c' ho n1 n2 bx bY hs0 hd w hI hJ
      have BD := doX_bd op.data.toList s hr bx bY hs0
      generalize doX op.data.toList bits.toNat s x y = z at h EX BD
      have NZ : nl z.natAbs ≤ 7 := nl_le _ 7 (Nat.lt_of_le_of_lt BD (by rw [B_eq]; decide))
      rcases hB : bringW bits.toNat s md.toList z with ⟨r, e1⟩
      rw [hB] at h
      simp only at h
      have fin : (e1 = 0 → t = ⟨(txt r).toArray⟩) ∧ (e1 ≠ 0 → t = ⟨#[]⟩) ∧ er = e1 := by
        by_cases he : e1 = 0
        · rw [if_pos he] at h
          simp only [Prod.mk.injEq] at h
          exact ⟨fun _ => h.1.symm, fun hne => absurd he hne, by rw [he]; exact h.2.symm⟩
        · rw [if_neg he] at h
          simp only [Prod.mk.injEq] at h
          exact ⟨fun h' => absurd h' he, fun _ => h.1.symm, h.2.symm⟩
      obtain ⟨f0, f1, rfl⟩ := fin
      by_cases h1 : op.data.toList = [47]
      · exact DoI_div op a b md bits s x y hx hy (Lib.hid hr) (Lib.hid ho) (Lib.hid hm) (Lib.hid hhx) (Lib.hid hhy) z r er (Lib.hid EX) (Lib.hid NZ) (Lib.hid hB) t (Lib.hid f0) (Lib.hid f1) (hd (Or.inl h1)) true _ rfl (lit_eq h1 rfl) (lit_eq h1 rfl) (lit_eq h1 rfl) rfl w
      by_cases h2 : op.data.toList = [37]
      · exact DoI_div op a b md bits s x y hx hy (Lib.hid hr) (Lib.hid ho) (Lib.hid hm) (Lib.hid hhx) (Lib.hid hhy) z r er (Lib.hid EX) (Lib.hid NZ) (Lib.hid hB) t (Lib.hid f0) (Lib.hid f1) (hd (Or.inr h2)) false true rfl (lit_eq h2 rfl) (lit_eq h2 rfl) (lit_eq h2 rfl) (lit_eq h2 rfl) w
      have e3 : (op.toList == [47]) = false := by rw [hl, decide_eq_false h1]
      have e4 : (op.toList == [37]) = false := by rw [hl, decide_eq_false h2]
      by_cases h3 : isShift op.data.toList = true
      · have hi := hs1 h3
        exact DoI_sh op a b md bits s x y hx hy (Lib.hid hr) (Lib.hid ho) (Lib.hid hm) (Lib.hid hhx) (Lib.hid hhy) z r er (Lib.hid EX) (Lib.hid NZ) (Lib.hid hB) t (Lib.hid f0) (Lib.hid f1) (Lib.hid hi.1) _ (Lib.hid rfl) (fun hp => by have := cz_pos.1 hp; omega) _ _ (by rw [← hsh]; exact h3) rfl rfl e3 e4 w
      · rw [hsh, Bool.or_eq_true, not_or] at h3
        exact DoI_plain op a b md bits s x y hx hy (Lib.hid hr) (Lib.hid ho) (Lib.hid hm) (Lib.hid hhx) (Lib.hid hhy) z r er (Lib.hid EX) (Lib.hid NZ) (Lib.hid hB) t (Lib.hid f0) (Lib.hid f1) (by simpa using h3.1) (by simpa using h3.2) e3 e4 w
set_option maxHeartbeats 2000000 in
set_option maxRecDepth 100000 in
theorem NumberDoes_any (op a b : ByteArray) (n : Int) (s : Bool) (md : ByteArray) (w : World) :
    Calls Try.prog 3 #[.agg (cv3 op a b), .agg (kvB n s md)] w fun e w' => e = .returned (.bool true) ∧ Below w.heap.size w w' := by
  rcases hr : doS op a b n s md with ⟨r, er⟩
  have HT := Lib.hid hr
  clear hr
  cases la : decide (200 < a.size)
  · have LA := Lib.hid la
    clear la
    cases lb : decide (200 < b.size)
    · have LB := Lib.hid lb
      clear lb
      go_enter Try.func3, Try.ntmps3
      go_upto_region 1 with (fail)
      refine wp_world (fun W => W.heap[w.heap.size]? = some (.cells (cv3 op a b) 23 (0, 0)) ∧ W.heap[w.heap.size + 1]? = some (.cells (kvB n s md) 25 (0, 0)) ∧ Below w.heap.size w W) ⟨ha_old (ha_new rfl), ha_new (by simp), ((Below.refl _ _).alloc (Nat.le_refl _) _).alloc (by simp) _⟩ ?_
      rintro W ⟨h0, h1, hb⟩
      apply wp_region_lit
      refine wl_k rfl (fun K hK => ?_); go_simp; refine hK _ ?_; clear hK K
      ((with_reducible apply wl_oneG); exact rfl; exact rfl; exact one_of u9t rfl (cv31 h0))
      refine wl_ck rfl (fun K hK => ?_); go_simp; refine ⟨_, _, ⟨rfl, rfl⟩, hK _ _ ⟨_, longs a _ _ LA, ?_⟩⟩; clear hK K; rintro e w1 ⟨rfl, hb1⟩; refine ⟨_, rfl, ?_⟩; simp only [put_lit, List.set_cons_zero, List.set_cons_succ]
      replace h0 := below_look hb1 h0; replace h1 := below_look hb1 h1; replace hb := hb.trans (hb1.mono hb.size); clear hb1
      refine wl_k rfl (fun K hK => ?_); go_simp; refine hK _ ?_; clear hK K
      refine wl_k rfl (fun K hK => ?_); go_simp; refine hK _ ?_; clear hK K
      ((with_reducible apply wl_oneG); exact rfl; exact rfl; exact one_of u9t rfl (cv32 h0))
      refine wl_ck rfl (fun K hK => ?_); go_simp; refine ⟨_, _, ⟨rfl, rfl⟩, hK _ _ ⟨_, longs b _ _ LB, ?_⟩⟩; clear hK K; rintro e w2 ⟨rfl, hb1⟩; refine ⟨_, rfl, ?_⟩; simp only [put_lit, List.set_cons_zero, List.set_cons_succ]
      replace h0 := below_look hb1 h0; replace h1 := below_look hb1 h1; replace hb := hb.trans (hb1.mono hb.size); clear hb1
      refine wl_k rfl (fun K hK => ?_); go_simp; refine hK _ ?_; clear hK K
      go_upto_region 3 with (fail)
      apply wp_region_lit
      refine wl_k rfl (fun K hK => ?_); go_simp; refine hK _ ?_; clear hK K
      ((with_reducible apply wl_oneG); exact rfl; exact rfl; exact one_of u9t rfl (cv30 h0))
      refine wl_k rfl (fun K hK => ?_); go_simp; refine hK _ ?_; clear hK K
      ((with_reducible apply wl_oneG); exact rfl; exact rfl; exact one_of u9t rfl (cv31 h0))
      refine wl_k rfl (fun K hK => ?_); go_simp; refine hK _ ?_; clear hK K
      ((with_reducible apply wl_oneG); exact rfl; exact rfl; exact one_of u9t rfl (cv32 h0))
      refine wl_k rfl (fun K hK => ?_); go_simp; refine hK _ ?_; clear hK K
      ((with_reducible apply wl_oneG); exact rfl; exact rfl; exact one_of u3 rfl (kv0 h1))
      refine wl_k rfl (fun K hK => ?_); go_simp; refine hK _ ?_; clear hK K
      ((with_reducible apply wl_oneG); exact rfl; exact rfl; exact one_of u4 rfl (kv1 h1))
      refine wl_k rfl (fun K hK => ?_); go_simp; refine hK _ ?_; clear hK K
      ((with_reducible apply wl_oneG); exact rfl; exact rfl; exact one_of u9t rfl (kv2 h1))
      refine wl_ck rfl (fun K hK => ?_); go_simp; refine ⟨_, _, ⟨rfl, rfl⟩, hK _ _ ⟨_, Do_any _ _ _ _ _ _ _ _ HT _, ?_⟩⟩; clear hK K; rintro e w3 ⟨rfl, hb1⟩; refine ⟨_, rfl, ?_⟩; simp only [put_lit, List.set_cons_zero, List.set_cons_succ]
      replace h0 := below_look hb1 h0; replace h1 := below_look hb1 h1; replace hb := hb.trans (hb1.mono hb.size); clear hb1
      go_upto_region 4 with (fail)
      apply wp_region_lit
      refine wl_k rfl (fun K hK => ?_); go_simp; refine hK _ ?_; clear hK K
      ((with_reducible apply wl_oneG); exact rfl; exact rfl; exact one_of u9t rfl (cv30 h0))
      refine wl_k rfl (fun K hK => ?_); go_simp; refine hK _ ?_; clear hK K
      ((with_reducible apply wl_oneG); exact rfl; exact rfl; exact one_of u9t rfl (cv31 h0))
      refine wl_k rfl (fun K hK => ?_); go_simp; refine hK _ ?_; clear hK K
      ((with_reducible apply wl_oneG); exact rfl; exact rfl; exact one_of u9t rfl (cv32 h0))
      refine wl_k rfl (fun K hK => ?_); go_simp; refine hK _ ?_; clear hK K
      ((with_reducible apply wl_oneG); exact rfl; exact rfl; exact one_of u3 rfl (kv0 h1))
      refine wl_k rfl (fun K hK => ?_); go_simp; refine hK _ ?_; clear hK K
      ((with_reducible apply wl_oneG); exact rfl; exact rfl; exact one_of u4 rfl (kv1 h1))
      refine wl_k rfl (fun K hK => ?_); go_simp; refine hK _ ?_; clear hK K
      ((with_reducible apply wl_oneG); exact rfl; exact rfl; exact one_of u9t rfl (kv2 h1))
      refine wl_ck rfl (fun K hK => ?_); go_simp; refine ⟨_, _, ⟨rfl, rfl⟩, hK _ _ ⟨_, DoI_any _ _ _ _ _ _ _ _ HT _, ?_⟩⟩; clear hK K; rintro e w3 ⟨rfl, hb1⟩; refine ⟨_, rfl, ?_⟩; simp only [put_lit, List.set_cons_zero, List.set_cons_succ]
      replace h0 := below_look hb1 h0; replace h1 := below_look hb1 h1; replace hb := hb.trans (hb1.mono hb.size); clear hb1
      go_wp2_with (go_at_call 21; refine (awake_any _).mono ?_; rintro e w9 ⟨rfl, hb1⟩; replace hb := hb.trans (hb1.mono hb.size); clear hb1)
      go_ret
      exact ⟨rfl, hb⟩
    · have LB := Lib.hid lb
      clear lb
      go_enter Try.func3, Try.ntmps3
      go_upto_region 1 with (fail)
      refine wp_world (fun W => W.heap[w.heap.size]? = some (.cells (cv3 op a b) 23 (0, 0)) ∧ W.heap[w.heap.size + 1]? = some (.cells (kvB n s md) 25 (0, 0)) ∧ Below w.heap.size w W) ⟨ha_old (ha_new rfl), ha_new (by simp), ((Below.refl _ _).alloc (Nat.le_refl _) _).alloc (by simp) _⟩ ?_
      rintro W ⟨h0, h1, hb⟩
      apply wp_region_lit
      refine wl_k rfl (fun K hK => ?_); go_simp; refine hK _ ?_; clear hK K
      ((with_reducible apply wl_oneG); exact rfl; exact rfl; exact one_of u9t rfl (cv31 h0))
      refine wl_ck rfl (fun K hK => ?_); go_simp; refine ⟨_, _, ⟨rfl, rfl⟩, hK _ _ ⟨_, longs a _ _ LA, ?_⟩⟩; clear hK K; rintro e w1 ⟨rfl, hb1⟩; refine ⟨_, rfl, ?_⟩; simp only [put_lit, List.set_cons_zero, List.set_cons_succ]
      replace h0 := below_look hb1 h0; replace h1 := below_look hb1 h1; replace hb := hb.trans (hb1.mono hb.size); clear hb1
      refine wl_k rfl (fun K hK => ?_); go_simp; refine hK _ ?_; clear hK K
      refine wl_k rfl (fun K hK => ?_); go_simp; refine hK _ ?_; clear hK K
      ((with_reducible apply wl_oneG); exact rfl; exact rfl; exact one_of u9t rfl (cv32 h0))
      refine wl_ck rfl (fun K hK => ?_); go_simp; refine ⟨_, _, ⟨rfl, rfl⟩, hK _ _ ⟨_, longs b _ _ LB, ?_⟩⟩; clear hK K; rintro e w2 ⟨rfl, hb1⟩; refine ⟨_, rfl, ?_⟩; simp only [put_lit, List.set_cons_zero, List.set_cons_succ]
      replace h0 := below_look hb1 h0; replace h1 := below_look hb1 h1; replace hb := hb.trans (hb1.mono hb.size); clear hb1
      refine wl_k rfl (fun K hK => ?_); go_simp; refine hK _ ?_; clear hK K
      go_wp2_with (go_at_call 21; refine (awake_any _).mono ?_; rintro e w9 ⟨rfl, hb1⟩; replace hb := hb.trans (hb1.mono hb.size); clear hb1)
      go_ret
      exact ⟨rfl, hb⟩
  · have LA := Lib.hid la
    clear la
    go_enter Try.func3, Try.ntmps3
    go_upto_region 1 with (fail)
    refine wp_world (fun W => W.heap[w.heap.size]? = some (.cells (cv3 op a b) 23 (0, 0)) ∧ W.heap[w.heap.size + 1]? = some (.cells (kvB n s md) 25 (0, 0)) ∧ Below w.heap.size w W) ⟨ha_old (ha_new rfl), ha_new (by simp), ((Below.refl _ _).alloc (Nat.le_refl _) _).alloc (by simp) _⟩ ?_
    rintro W ⟨h0, h1, hb⟩
    apply wp_region_lit
    refine wl_k rfl (fun K hK => ?_); go_simp; refine hK _ ?_; clear hK K
    ((with_reducible apply wl_oneG); exact rfl; exact rfl; exact one_of u9t rfl (cv31 h0))
    refine wl_ck rfl (fun K hK => ?_); go_simp; refine ⟨_, _, ⟨rfl, rfl⟩, hK _ _ ⟨_, longs a _ _ LA, ?_⟩⟩; clear hK K; rintro e w1 ⟨rfl, hb1⟩; refine ⟨_, rfl, ?_⟩; simp only [put_lit, List.set_cons_zero, List.set_cons_succ]
    replace h0 := below_look hb1 h0; replace h1 := below_look hb1 h1; replace hb := hb.trans (hb1.mono hb.size); clear hb1
    refine wl_k rfl (fun K hK => ?_); go_simp; refine hK _ ?_; clear hK K
    go_wp2_with (go_at_call 21; refine (awake_any _).mono ?_; rintro e w9 ⟨rfl, hb1⟩; replace hb := hb.trans (hb1.mono hb.size); clear hb1)
    go_ret
    exact ⟨rfl, hb⟩
end Go.Proofs.Ytclainfdeghgnaa
