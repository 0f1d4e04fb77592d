/- The document's reader in memory: atom. -/
import Derived.Deep.CutBlock
import Derived.Deep.DeepCutAuto
import Derived.Test.YtokmaehefenpmaaDoorPA10
namespace Go.Proofs.YtokmaehefenpmaaDoor
open Go.RowKit Go.Proofs.YtokmaehefenpmaaDoor.Nm
set_option linter.unusedSimpArgs false
theorem take_drop {w l s1 : List UInt8} {i : Nat} (h : takeL w (l.drop i) = some s1) : l.drop (i + w.length) = s1 := by
  unfold takeL at h
  split at h
  · cases h; rw [List.drop_drop]
  · cases h
theorem take_le {w l s1 : List UInt8} {i : Nat} (hi : i ≤ l.length) (h : takeL w (l.drop i) = some s1) : i + w.length ≤ l.length := by
  have := take_len h
  simp at this; omega
theorem nameEnd_le {l : List UInt8} {i : Nat} (hi : i ≤ l.length) : i ≤ nameEnd l i ∧ nameEnd l i ≤ l.length := by
  unfold nameEnd
  have := dw_len (l.drop i)
  simp at this; omega
theorem name_drop {l : List UInt8} {i : Nat} : l.drop (nameEnd l i) = (l.drop i).dropWhile isW :=
  suf_at ((List.dropWhile_suffix _).trans (List.drop_suffix _ _))
theorem name_ext {l : List UInt8} {i : Nat} (hi : i ≤ l.length) : (strOf l).extract i (nameEnd l i) = strOf ((l.drop i).takeWhile isW) := by
  have h1 := congrArg List.length (List.takeWhile_append_dropWhile (p := isW) (l := l.drop i))
  have h2 : nameEnd l i = i + ((l.drop i).takeWhile isW).length := by
    unfold nameEnd
    rw [List.length_append, List.length_drop] at h1
    omega
  rw [h2, strOf_ext]
  congr 1
  conv => lhs; rw [← List.takeWhile_append_dropWhile (p := isW) (l := l.drop i)]
  rw [List.take_left' (by simp)]
theorem built24n (k : Int) (s : ByteArray) (A : Option Addr) (l c : Nat) : Tryd.prog.built 24 [(0, .int .i64 k), (1, .string s), (3, .slice A l c)] = some (cell4 k s 0 A l c) := by kernel_rfl
theorem OPost.yes {l : List UInt8} {R : Option (Ty × List UInt8)} {t : Ty} {s1 : List UInt8} {w w' : World} {row : Array Value} {j : Nat} (hR : R = some (t, s1)) (hj : l.length - s1.length = j) (ht : TyAt w' (fun b => w.heap.size ≤ b) t row) (hb : Below w.heap.size w w') : OPost l R w (.returned (.tuple #[.agg row, .int .i64 (j : Int)])) w' := by
  rw [hR]
  exact ⟨row, by rw [hj], ht, hb⟩
theorem OPost.no {l : List UInt8} {R : Option (Ty × List UInt8)} {t : Ty} {w w' : World} {row : Array Value} (hR : R = none) (ht : TyAt w' (fun b => w.heap.size ≤ b) t row) (hb : Below w.heap.size w w') : OPost l R w (.returned (.tuple #[.agg row, .int .i64 (-1)])) w' := by
  rw [hR]
  exact ⟨t, row, rfl, ht, hb⟩
theorem tw_small {l : List UInt8} {i : Nat} (hl : l.length ≤ 10000) : (strOf ((l.drop i).takeWhile isW)).size ≤ maxLen := by
  rw [strOf_size]
  have := (List.takeWhile_sublist isW (l := l.drop i)).length_le
  simp at this
  unfold maxLen; omega
/-- The last steps of a reading of digits. -/
theorem numI_end {x k : Nat} {l : List UInt8} (h : l.length ≤ k ∨ (∃ c, l[k]? = some c ∧ ¬ (48 ≤ c.toNat ∧ c.toNat ≤ 57)) ∨ 40 ≤ x) : numI x (l.drop k) = (x, l.drop k) := by
  cases hd : l.drop k with
  | nil => rfl
  | cons c s =>
    simp only [numI]
    rw [if_neg]
    rintro ⟨h1, h2⟩
    have hc : l[k]? = some c := by rw [← List.head?_drop, hd]; rfl
    rcases h with h | ⟨c', h3, h4⟩ | h
    · have := (List.getElem?_eq_some_iff.1 hc).1; omega
    · rw [h3] at hc; cases hc; exact h4 h1
    · omega
theorem numI_go {x k : Nat} {l : List UInt8} {c : UInt8} (hc : l[k]? = some c) (h : 48 ≤ c.toNat ∧ c.toNat ≤ 57) (hx : x < 40) : numI x (l.drop k) = numI (10 * x + (c.toNat - 48)) (l.drop (k + 1)) := by
  have hk := (List.getElem?_eq_some_iff.1 hc)
  rw [List.drop_eq_getElem_cons hk.1, hk.2]
  simp only [numI]
  rw [if_pos ⟨h, hx⟩]
theorem begins_any (l : List UInt8) (hl : l.length ≤ 10000) (i : Nat) (hi : i ≤ l.length) (t : ByteArray) (ht : t.size ≤ 10000) (w : World) :
    Calls Tryd.prog 90 #[.string (strOf l), .int .i64 (i : Int), .string t] w fun e w' => e = .returned (.bool (takeL t.data.toList (l.drop i)).isSome) ∧ w = w' := by
  cases h : takeL t.data.toList (l.drop i) with
  | none => exact begins_no l hl i hi t ht h w
  | some s1 => exact begins_yes l hl i hi t s1 h w
set_option maxHeartbeats 8000000 in
set_option maxRecDepth 100000 in
theorem atom_any (l : List UInt8) (hl : l.length ≤ 10000) (n : Nat) (hC : OneC l n) (i : Nat) (hi : i ≤ l.length) (hn : (l.drop i).length ≤ n) (w : World) :
    Calls Tryd.prog 93 #[.string (strOf l), .int .i64 (i : Int)] w (OPost l (itAtom (itOne n) (l.drop i)) w) := by
  obtain ⟨s, hs⟩ : ∃ s, s = strOf l := ⟨_, rfl⟩
  have hsz : s.size = l.length := by rw [hs, strOf_size]
  have hs1 : s.size ≤ 10000 := by omega
  have HS := Lib.hid hs
  have HSZ := Lib.hid hsz
  have HCC := Lib.hid hC
  have HLL := Lib.hid hl
  have HI := Lib.hid hi
  have HN := Lib.hid hn
  have his : i ≤ s.size := by omega
  have hiw : IntKind.i64.wrap (i : Int) = (i : Int) := IntWalk.i64_in _ (by omega)
  rw [← hs]
  clear hs hC hl hsz hn hi
  have hb := Below.refl w.heap.size w
  go_enter Tryd.func93, Tryd.ntmps93
  go_upto_region 0 with (fail)
  apply wp_region_lit
  (with_reducible refine wl_all ?_); intro W z hbn hlz hz; replace hb := hb.trans (hbn.mono hb.size); clear hbn; simp only [put_lit, List.set_cons_zero, List.set_cons_succ]
  (with_reducible refine wl_k ?_ ?_); exact rfl; intro K hK; go_simp; refine hK _ ?_; clear hK K
  go_upto_region 1 with (fail)
  cases h1 : takeL [36] ((l.drop i)) with
  | some s1 =>
    obtain ⟨i1, hi1⟩ : ∃ i1, i1 = i + 1 := ⟨_, rfl⟩
    have hd1 : l.drop i1 = s1 := by rw [hi1]; exact take_drop h1
    have hle1 : i1 ≤ l.length := by rw [hi1]; exact take_le HI.out h1
    have hB := begins_yes l HLL.out i HI.out ⟨#[36]⟩ s1 h1 W
    rw [← HS.out] at hB
    have HB := Lib.hid hB
    clear hB
    apply wp_region_lit
    (with_reducible refine wl_k ?_ ?_); exact rfl; intro K hK; go_simp; refine hK _ ?_; clear hK K
    (with_reducible refine wl_k ?_ ?_); exact rfl; intro K hK; go_simp; refine hK _ ?_; clear hK K
    (with_reducible refine wl_ck ?_ ?_); exact rfl; intro K hK; go_simp; refine ⟨_, _, ⟨rfl, rfl⟩, hK _ _ ⟨_, HB.out, ?_⟩⟩; clear hK K; rintro e w1 ⟨rfl, rfl⟩; refine ⟨_, rfl, ?_⟩; simp only [put_lit, List.set_cons_zero, List.set_cons_succ]
    clear HB
    obtain ⟨j, hj⟩ : ∃ j, j = nameEnd l i1 := ⟨_, rfl⟩
    have hnl := nameEnd_le hle1
    have hN := name_any l HLL.out i1 hle1 W
    rw [← HS.out, ← hj] at hN
    rw [← hj] at hnl
    have HNM := Lib.hid hN
    have hij : i1 ≤ j := hnl.1
    have hjs : j ≤ s.size := by rw [HSZ.out]; exact hnl.2
    have hi1s : i1 ≤ s.size := by omega
    have hi1I : (i : Int) + 1 = (i1 : Int) := by omega
    have hi1w : IntKind.i64.wrap (i1 : Int) = (i1 : Int) := IntWalk.i64_in _ (by omega)
    have hijI : (i1 : Int) ≤ (j : Int) := by omega
    have hjI : (j : Int) ≤ (s.size : Int) := by omega
    obtain ⟨x, hx⟩ : ∃ x, x = s.extract i1 j := ⟨_, rfl⟩
    have HX := Lib.hid hx
    have hxe : x = strOf (s1.takeWhile isW) := by rw [hx, HS.out, hj, name_ext hle1, hd1]
    have HXZ : Hid (x.size ≤ maxLen) := Lib.hid (by rw [hxe, ← hd1]; exact tw_small HLL.out)
    have HRA : Hid (itAtom (itOne n) (l.drop i) = some (.node 7 x 0 [], s1.dropWhile isW)) := Lib.hid (by unfold itAtom; rw [h1, hxe])
    have HPS : Hid (l.length - (s1.dropWhile isW).length = j) := Lib.hid (by rw [hj, ← hd1]; rfl)
    clear h1 hd1 hle1 hj hnl hN hx hxe hi1
    go_upto_region 2 with (fail)
    apply wp_region_lit
    (with_reducible refine wl_k ?_ ?_); exact rfl; intro K hK; go_simp; refine hK _ ?_; clear hK K
    (with_reducible refine wl_k ?_ ?_); exact rfl; intro K hK; go_simp; refine hK _ ?_; clear hK K
    (with_reducible refine wl_k ?_ ?_); exact rfl; intro K hK; go_simp; refine hK _ ?_; clear hK K
    (with_reducible refine wl_ck ?_ ?_); exact rfl; intro K hK; go_simp; refine ⟨_, _, ⟨rfl, rfl⟩, hK _ _ ⟨_, HNM.out, ?_⟩⟩; clear hK K; rintro e w2 ⟨rfl, rfl⟩; refine ⟨_, rfl, ?_⟩; simp only [put_lit, List.set_cons_zero, List.set_cons_succ]
    (with_reducible refine wl_k ?_ ?_); exact rfl; intro K hK; go_simp; refine hK _ ?_; clear hK K
    clear HNM
    go_upto_region 3 with (fail)
    apply wp_region_lit
    (with_reducible refine wl_k ?_ ?_); exact rfl; intro K hK; go_simp; refine hK _ ?_; clear hK K
    (with_reducible refine wl_k ?_ ?_); exact rfl; intro K hK; go_simp; refine hK _ ?_; clear hK K
    (with_reducible refine wl_k ?_ ?_); exact rfl; intro K hK; go_simp; refine hK _ ?_; clear hK K
    (with_reducible refine wl_k ?_ ?_); exact rfl; intro K hK; go_simp; refine hK _ ?_; clear hK K
    (with_reducible refine wl_k ?_ ?_); exact rfl; intro K hK; go_simp; refine hK _ ?_; clear hK K
    rw [← HX.out]
    refine wl_val rfl (ex_build 24 _ rfl (L := [(0, .int .i64 7), (1, .string x)]) rfl (built24x 7 x)) ?_
    simp only [put_lit, List.set_cons_zero, List.set_cons_succ]
    (with_reducible refine wl_k ?_ ?_); exact rfl; intro K hK; go_simp; refine hK _ ?_; clear hK K
    (with_reducible refine wl_put rfl rfl hz ?_); rw [put_noneA]; intro W3 hbx hsz hkx hnx; replace hb := hbx _ _ (by omega) hb; clear hz; have hz := hnx; clear hnx
    (with_reducible refine wl_k ?_ ?_); exact rfl; intro K hK; go_simp; refine hK _ ?_; clear hK K
    clear hbx hkx hsz
    have HZ := Lib.hid hz
    have HB := Lib.hid hb
    clear hz hb
    go_wp2_with fail
    refine bodyPost_ret (res24t rfl _ _ z rfl rfl HZ.out) rfl ?_
    exact OPost.yes HRA.out HPS.out (TyAt.of (by rfl) (by rfl) HXZ.out (TysAt.nil _ _)) HB.out
  | none =>
  have hB := begins_no l HLL.out i HI.out ⟨#[36]⟩ (by decide) h1 W
  rw [← HS.out] at hB
  have HB := Lib.hid hB
  clear hB
  apply wp_region_lit
  (with_reducible refine wl_k ?_ ?_); exact rfl; intro K hK; go_simp; refine hK _ ?_; clear hK K
  (with_reducible refine wl_k ?_ ?_); exact rfl; intro K hK; go_simp; refine hK _ ?_; clear hK K
  (with_reducible refine wl_ck ?_ ?_); exact rfl; intro K hK; go_simp; refine ⟨_, _, ⟨rfl, rfl⟩, hK _ _ ⟨_, HB.out, ?_⟩⟩; clear hK K; rintro e w1 ⟨rfl, rfl⟩; refine ⟨_, rfl, ?_⟩; simp only [put_lit, List.set_cons_zero, List.set_cons_succ]
  clear HB
  go_upto_region 4 with (fail)
  cases h2 : takeL [63] ((l.drop i)) with
  | some s1 =>
    obtain ⟨i1, hi1⟩ : ∃ i1, i1 = i + 1 := ⟨_, rfl⟩
    have hd1 : l.drop i1 = s1 := by rw [hi1]; exact take_drop h2
    have hle1 : i1 ≤ l.length := by rw [hi1]; exact take_le HI.out h2
    have hB := begins_yes l HLL.out i HI.out ⟨#[63]⟩ s1 h2 W
    rw [← HS.out] at hB
    have HB := Lib.hid hB
    clear hB
    apply wp_region_lit
    (with_reducible refine wl_k ?_ ?_); exact rfl; intro K hK; go_simp; refine hK _ ?_; clear hK K
    (with_reducible refine wl_k ?_ ?_); exact rfl; intro K hK; go_simp; refine hK _ ?_; clear hK K
    (with_reducible refine wl_ck ?_ ?_); exact rfl; intro K hK; go_simp; refine ⟨_, _, ⟨rfl, rfl⟩, hK _ _ ⟨_, HB.out, ?_⟩⟩; clear hK K; rintro e w1 ⟨rfl, rfl⟩; refine ⟨_, rfl, ?_⟩; simp only [put_lit, List.set_cons_zero, List.set_cons_succ]
    clear HB
    have hi1s : i1 ≤ s.size := by rw [HSZ.out]; exact hle1
    have hi1I : (i : Int) + 1 = (i1 : Int) := by omega
    have hi1w : IntKind.i64.wrap (i1 : Int) = (i1 : Int) := IntWalk.i64_in _ (by omega)
    have HRA : Hid (∀ x k, numI 0 s1 = (x, l.drop k) → itAtom (itOne n) (l.drop i) = some (.node 12 ⟨#[]⟩ (x : Int) [], l.drop k)) := Lib.hid fun x k h => by unfold itAtom; rw [h1]; simp only [h2, h]
    have HD1 := Lib.hid hd1
    clear h1 h2 hd1 hle1 hi1
    go_upto_region 5 with (fail)
    apply wp_region_lit
    (with_reducible refine wl_k ?_ ?_); exact rfl; intro K hK; go_simp; refine hK _ ?_; clear hK K
    go_upto_region 6 with (fail)
    apply wp_region_lit
    (with_reducible refine wl_k ?_ ?_); exact rfl; intro K hK; go_simp; refine hK _ ?_; clear hK K
    (with_reducible refine wl_k ?_ ?_); exact rfl; intro K hK; go_simp; refine hK _ ?_; clear hK K
    (with_reducible refine wl_k ?_ ?_); exact rfl; intro K hK; go_simp; refine hK _ ?_; clear hK K
    have HZ0 := Lib.hid hz
    have HB0 := Lib.hid hb
    clear hz hb
    go_wp2_with fail
    go_loopw [7, 8] (fun v o wr => ∃ (x k : Nat), v = .int .i64 (x : Int) ∧ o = .int .i64 (k : Int) ∧ k ≤ s.size ∧ x ≤ 1000 ∧ Hid (numI 0 s1 = numI x (l.drop k)) ∧ W = wr) (fun _ o _ => s.size - (intOf o).toNat)
    case atStart => exact ⟨0, i1, rfl, rfl, hi1s, by omega, Lib.hid (by rw [HD1.out]), rfl⟩
    case round =>
      obtain ⟨x, k, rfl, rfl, hk, hx, HNI, rfl⟩ := hrel
      go_upto_region 7 with (fail)
      by_cases hlt : k < s.size
      · have hltI : (k : Int) < (s.size : Int) := by omega
        have HG : Hid (l[k]? = some s[k]) := Lib.hid (by have := HS.out; subst this; exact strOf_get l hlt)
        have HD := Lib.hid (Digit_any (s[k].toNat : Int) W)
        obtain ⟨b, hbb⟩ : ∃ b, b = digitB (s[k].toNat : Int) := ⟨_, rfl⟩
        have HBB := Lib.hid hbb
        rw [← hbb] at HD
        clear hbb
        apply wp_region_lit
        (with_reducible refine wl_k ?_ ?_); exact rfl; intro K hK; go_simp; refine hK _ ?_; clear hK K
        (with_reducible refine wl_k ?_ ?_); exact rfl; intro K hK; go_simp; refine hK _ ?_; clear hK K
        (with_reducible refine wl_k ?_ ?_); exact rfl; intro K hK; go_simp; refine hK _ ?_; clear hK K
        (with_reducible refine wl_k ?_ ?_); exact rfl; intro K hK; go_simp; refine hK _ ?_; clear hK K
        (with_reducible refine wl_k ?_ ?_); exact rfl; intro K hK; go_simp; refine hK _ ?_; clear hK K
        (with_reducible refine wl_k ?_ ?_); exact rfl; intro K hK; go_simp; refine hK _ ?_; clear hK K
        (with_reducible refine wl_k ?_ ?_); exact rfl; intro K hK; go_simp; refine hK _ ?_; clear hK K
        (with_reducible refine wl_k ?_ ?_); exact rfl; intro K hK; go_simp; refine hK _ ?_; clear hK K
        (with_reducible refine wl_ck ?_ ?_); exact rfl; intro K hK; go_simp; refine ⟨_, _, ⟨rfl, rfl⟩, hK _ _ ⟨_, HD.out, ?_⟩⟩; clear hK K; rintro e w4 ⟨rfl, rfl⟩; refine ⟨_, rfl, ?_⟩; simp only [put_lit, List.set_cons_zero, List.set_cons_succ]
        clear HD
        cases b with
        | false =>
          have HNE : Hid (numI x (l.drop k) = (x, l.drop k)) := Lib.hid (numI_end (Or.inr (Or.inl ⟨_, HG.out, fun h => by have := HBB.out; unfold digitB at this; rw [decide_eq_true (by omega)] at this; cases this⟩)))
          (with_reducible refine wl_k ?_ ?_); exact rfl; intro K hK; go_simp; refine hK _ ?_; clear hK K
          (with_reducible refine wl_k ?_ ?_); exact rfl; intro K hK; go_simp; refine hK _ ?_; clear hK K
          (first | ((with_reducible refine wl_skipU ?_ ?_ ?_); exact rfl; exact rfl) | ((with_reducible refine wl_skip ?_ ?_); exact rfl; simp only [put_lit, List.set_cons_zero, List.set_cons_succ]))
          (first | ((with_reducible refine wl_skipU ?_ ?_ ?_); exact rfl; exact rfl) | ((with_reducible refine wl_skip ?_ ?_); exact rfl; simp only [put_lit, List.set_cons_zero, List.set_cons_succ]))
          (with_reducible refine wl_k ?_ ?_); exact rfl; intro K hK; go_simp; refine hK _ ?_; clear hK K
          have hz := HZ0.out
          have hb := HB0.out
          have hwf : (Lit.int .i64 (x : Int)).wf = true := by
            have h1 : IntKind.i64.min = -9223372036854775808 := rfl
            have h2 : IntKind.i64.max = 9223372036854775807 := rfl
            simp only [Lit.wf, Bool.and_eq_true, decide_eq_true_eq]
            omega
          have HWF := Lib.hid hwf
          have HRB := Lib.hid (HRA.out x k (by rw [HNI.out]; exact HNE.out))
          have HPS : Hid (l.length - (l.drop k).length = k) := Lib.hid (by have := HSZ.out; rw [List.length_drop]; omega)
          clear hwf HZ0 HB0 HRA HNI HNE
          go_upto_region 10 with (fail)
          apply wp_region_lit
          (with_reducible refine wl_k ?_ ?_); exact rfl; intro K hK; go_simp; refine hK _ ?_; clear hK K
          refine wl_val rfl (ex_build 24 _ rfl (L := [(0, .int .i64 12), (2, .int .i64 (x : Int))]) rfl (built24v (x : Int))) ?_
          simp only [put_lit, List.set_cons_zero, List.set_cons_succ]
          (with_reducible refine wl_k ?_ ?_); exact rfl; intro K hK; go_simp; refine hK _ ?_; clear hK K
          (with_reducible refine wl_put rfl rfl hz ?_); rw [put_noneA]; intro W3 hbx hsz hkx hnx; replace hb := hbx _ _ (by omega) hb; clear hz; have hz := hnx; clear hnx
          (with_reducible refine wl_k ?_ ?_); exact rfl; intro K hK; go_simp; refine hK _ ?_; clear hK K
          clear hbx hkx hsz
          have HZ := Lib.hid hz
          have HB := Lib.hid hb
          clear hz hb
          go_wp2_with fail
          refine bodyPost_ret (res24t rfl _ _ z rfl rfl HZ.out) rfl ?_
          exact OPost.yes HRB.out HPS.out (TyAt.of (by rfl) HWF.out (Nat.zero_le _) (TysAt.nil _ _)) HB.out
        | true =>
          have hdg : 48 ≤ s[k].toNat ∧ s[k].toNat ≤ 57 := by
            have := HBB.out.symm
            unfold digitB at this
            have := of_decide_eq_true this
            omega
          by_cases hx40 : x < 40
          · have hx40I : (x : Int) < 40 := by omega
            have HNI2 : Hid (numI 0 s1 = numI (10 * x + (s[k].toNat - 48)) (l.drop (k + 1))) := Lib.hid (by rw [HNI.out]; exact numI_go HG.out hdg hx40)
            obtain ⟨c, hc⟩ : ∃ c : Nat, c = s[k].toNat := ⟨_, rfl⟩
            obtain ⟨d, hd⟩ : ∃ d : Nat, d = s[k].toNat - 48 := ⟨_, rfl⟩
            obtain ⟨y, hy⟩ : ∃ y : Nat, y = 10 * x + d := ⟨_, rfl⟩
            rw [← hd, ← hy] at HNI2
            have hdI : (s[k].toNat : Int) - 48 = (d : Int) := by omega
            have hdw : IntKind.u8.wrap (d : Int) = (d : Int) := by
              have h2 : ∀ m : Nat, m < 10 → IntKind.u8.wrap (m : Int) = (m : Int) := by decide
              exact h2 d (by omega)
            have hdw2 : IntKind.i64.wrap (d : Int) = (d : Int) := IntWalk.i64_in _ (by omega)
            have hyI : 10 * (x : Int) + (d : Int) = (y : Int) := by omega
            have hyw : IntKind.i64.wrap (y : Int) = (y : Int) := IntWalk.i64_in _ (by omega)
            have hxw : IntKind.i64.wrap (10 * (x : Int)) = 10 * (x : Int) := IntWalk.i64_in _ (by omega)
            have hy1 : y ≤ 1000 := by omega
            have hkw : IntKind.i64.wrap ((k : Int) + 1) = (k : Int) + 1 := IntWalk.i64_in _ (by omega)
            clear hc hd hy
            (with_reducible refine wl_k ?_ ?_); exact rfl; intro K hK; go_simp; refine hK _ ?_; clear hK K
            (with_reducible refine wl_k ?_ ?_); exact rfl; intro K hK; go_simp; refine hK _ ?_; clear hK K
            (with_reducible refine wl_k ?_ ?_); exact rfl; intro K hK; go_simp; refine hK _ ?_; clear hK K
            (with_reducible refine wl_k ?_ ?_); exact rfl; intro K hK; go_simp; refine hK _ ?_; clear hK K
            (with_reducible refine wl_k ?_ ?_); exact rfl; intro K hK; go_simp; refine hK _ ?_; clear hK K
            go_upto_region 8 with (fail)
            apply wp_region_lit
            (with_reducible refine wl_k ?_ ?_); exact rfl; intro K hK; go_simp; refine hK _ ?_; clear hK K
            (with_reducible refine wl_k ?_ ?_); exact rfl; intro K hK; go_simp; refine hK _ ?_; clear hK K
            (with_reducible refine wl_k ?_ ?_); exact rfl; intro K hK; go_simp; refine hK _ ?_; clear hK K
            (with_reducible refine wl_k ?_ ?_); exact rfl; intro K hK; go_simp; refine hK _ ?_; clear hK K
            (with_reducible refine wl_k ?_ ?_); exact rfl; intro K hK; go_simp; refine hK _ ?_; clear hK K
            (with_reducible refine wl_k ?_ ?_); exact rfl; intro K hK; go_simp; refine hK _ ?_; clear hK K
            (with_reducible refine wl_k ?_ ?_); exact rfl; intro K hK; go_simp; refine hK _ ?_; clear hK K
            (with_reducible refine wl_k ?_ ?_); exact rfl; intro K hK; go_simp; refine hK _ ?_; clear hK K
            (with_reducible refine wl_k ?_ ?_); exact rfl; intro K hK; go_simp; refine hK _ ?_; clear hK K
            go_upto_region 9 with (fail)
            apply wp_region_lit
            (with_reducible refine wl_k ?_ ?_); exact rfl; intro K hK; go_simp; refine hK _ ?_; clear hK K
            (with_reducible refine wl_k ?_ ?_); exact rfl; intro K hK; go_simp; refine hK _ ?_; clear hK K
            (with_reducible refine wl_k ?_ ?_); exact rfl; intro K hK; go_simp; refine hK _ ?_; clear hK K
            clear hdI hdw hdw2 hyI hyw hxw hdg
            go_wp2_with fail
            go_roundw
            case rel => exact ⟨y, k + 1, rfl, by go_num, by omega, hy1, HNI2, trivial⟩
            case measure => simp [intOf]; omega
          · have hx40I : ¬ (x : Int) < 40 := by omega
            have HNE : Hid (numI x (l.drop k) = (x, l.drop k)) := Lib.hid (numI_end (Or.inr (Or.inr (by omega))))
            clear hdg
            (with_reducible refine wl_k ?_ ?_); exact rfl; intro K hK; go_simp; refine hK _ ?_; clear hK K
            (with_reducible refine wl_k ?_ ?_); exact rfl; intro K hK; go_simp; refine hK _ ?_; clear hK K
            (with_reducible refine wl_k ?_ ?_); exact rfl; intro K hK; go_simp; refine hK _ ?_; clear hK K
            (with_reducible refine wl_k ?_ ?_); exact rfl; intro K hK; go_simp; refine hK _ ?_; clear hK K
            (with_reducible refine wl_k ?_ ?_); exact rfl; intro K hK; go_simp; refine hK _ ?_; clear hK K
            have hz := HZ0.out
            have hb := HB0.out
            have hwf : (Lit.int .i64 (x : Int)).wf = true := by
              have h1 : IntKind.i64.min = -9223372036854775808 := rfl
              have h2 : IntKind.i64.max = 9223372036854775807 := rfl
              simp only [Lit.wf, Bool.and_eq_true, decide_eq_true_eq]
              omega
            have HWF := Lib.hid hwf
            have HRB := Lib.hid (HRA.out x k (by rw [HNI.out]; exact HNE.out))
            have HPS : Hid (l.length - (l.drop k).length = k) := Lib.hid (by have := HSZ.out; rw [List.length_drop]; omega)
            clear hwf HZ0 HB0 HRA HNI HNE
            go_upto_region 10 with (fail)
            apply wp_region_lit
            (with_reducible refine wl_k ?_ ?_); exact rfl; intro K hK; go_simp; refine hK _ ?_; clear hK K
            refine wl_val rfl (ex_build 24 _ rfl (L := [(0, .int .i64 12), (2, .int .i64 (x : Int))]) rfl (built24v (x : Int))) ?_
            simp only [put_lit, List.set_cons_zero, List.set_cons_succ]
            (with_reducible refine wl_k ?_ ?_); exact rfl; intro K hK; go_simp; refine hK _ ?_; clear hK K
            (with_reducible refine wl_put rfl rfl hz ?_); rw [put_noneA]; intro W3 hbx hsz hkx hnx; replace hb := hbx _ _ (by omega) hb; clear hz; have hz := hnx; clear hnx
            (with_reducible refine wl_k ?_ ?_); exact rfl; intro K hK; go_simp; refine hK _ ?_; clear hK K
            clear hbx hkx hsz
            have HZ := Lib.hid hz
            have HB := Lib.hid hb
            clear hz hb
            go_wp2_with fail
            refine bodyPost_ret (res24t rfl _ _ z rfl rfl HZ.out) rfl ?_
            exact OPost.yes HRB.out HPS.out (TyAt.of (by rfl) HWF.out (Nat.zero_le _) (TysAt.nil _ _)) HB.out
      · have hltI : ¬ (k : Int) < (s.size : Int) := by omega
        have HNE : Hid (numI x (l.drop k) = (x, l.drop k)) := Lib.hid (numI_end (Or.inl (by rw [← HSZ.out]; omega)))
        apply wp_region_lit
        (with_reducible refine wl_k ?_ ?_); exact rfl; intro K hK; go_simp; refine hK _ ?_; clear hK K
        (with_reducible refine wl_k ?_ ?_); exact rfl; intro K hK; go_simp; refine hK _ ?_; clear hK K
        (with_reducible refine wl_k ?_ ?_); exact rfl; intro K hK; go_simp; refine hK _ ?_; clear hK K
        (with_reducible refine wl_k ?_ ?_); exact rfl; intro K hK; go_simp; refine hK _ ?_; clear hK K
        (with_reducible refine wl_k ?_ ?_); exact rfl; intro K hK; go_simp; refine hK _ ?_; clear hK K
        (first | ((with_reducible refine wl_skipU ?_ ?_ ?_); exact rfl; exact rfl) | ((with_reducible refine wl_skip ?_ ?_); exact rfl; simp only [put_lit, List.set_cons_zero, List.set_cons_succ]))
        (first | ((with_reducible refine wl_skipU ?_ ?_ ?_); exact rfl; exact rfl) | ((with_reducible refine wl_skip ?_ ?_); exact rfl; simp only [put_lit, List.set_cons_zero, List.set_cons_succ]))
        (first | ((with_reducible refine wl_skipU ?_ ?_ ?_); exact rfl; exact rfl) | ((with_reducible refine wl_skip ?_ ?_); exact rfl; simp only [put_lit, List.set_cons_zero, List.set_cons_succ]))
        (first | ((with_reducible refine wl_skipU ?_ ?_ ?_); exact rfl; exact rfl) | ((with_reducible refine wl_skip ?_ ?_); exact rfl; simp only [put_lit, List.set_cons_zero, List.set_cons_succ]))
        (with_reducible refine wl_k ?_ ?_); exact rfl; intro K hK; go_simp; refine hK _ ?_; clear hK K
        (with_reducible refine wl_k ?_ ?_); exact rfl; intro K hK; go_simp; refine hK _ ?_; clear hK K
        (first | ((with_reducible refine wl_skipU ?_ ?_ ?_); exact rfl; exact rfl) | ((with_reducible refine wl_skip ?_ ?_); exact rfl; simp only [put_lit, List.set_cons_zero, List.set_cons_succ]))
        (first | ((with_reducible refine wl_skipU ?_ ?_ ?_); exact rfl; exact rfl) | ((with_reducible refine wl_skip ?_ ?_); exact rfl; simp only [put_lit, List.set_cons_zero, List.set_cons_succ]))
        (with_reducible refine wl_k ?_ ?_); exact rfl; intro K hK; go_simp; refine hK _ ?_; clear hK K
        have hz := HZ0.out
        have hb := HB0.out
        have hwf : (Lit.int .i64 (x : Int)).wf = true := by
          have h1 : IntKind.i64.min = -9223372036854775808 := rfl
          have h2 : IntKind.i64.max = 9223372036854775807 := rfl
          simp only [Lit.wf, Bool.and_eq_true, decide_eq_true_eq]
          omega
        have HWF := Lib.hid hwf
        have HRB := Lib.hid (HRA.out x k (by rw [HNI.out]; exact HNE.out))
        have HPS : Hid (l.length - (l.drop k).length = k) := Lib.hid (by have := HSZ.out; rw [List.length_drop]; omega)
        clear hwf HZ0 HB0 HRA HNI HNE
        go_upto_region 10 with (fail)
        apply wp_region_lit
        (with_reducible refine wl_k ?_ ?_); exact rfl; intro K hK; go_simp; refine hK _ ?_; clear hK K
        refine wl_val rfl (ex_build 24 _ rfl (L := [(0, .int .i64 12), (2, .int .i64 (x : Int))]) rfl (built24v (x : Int))) ?_
        simp only [put_lit, List.set_cons_zero, List.set_cons_succ]
        (with_reducible refine wl_k ?_ ?_); exact rfl; intro K hK; go_simp; refine hK _ ?_; clear hK K
        (with_reducible refine wl_put rfl rfl hz ?_); rw [put_noneA]; intro W3 hbx hsz hkx hnx; replace hb := hbx _ _ (by omega) hb; clear hz; have hz := hnx; clear hnx
        (with_reducible refine wl_k ?_ ?_); exact rfl; intro K hK; go_simp; refine hK _ ?_; clear hK K
        clear hbx hkx hsz
        have HZ := Lib.hid hz
        have HB := Lib.hid hb
        clear hz hb
        go_wp2_with fail
        refine bodyPost_ret (res24t rfl _ _ z rfl rfl HZ.out) rfl ?_
        exact OPost.yes HRB.out HPS.out (TyAt.of (by rfl) HWF.out (Nat.zero_le _) (TysAt.nil _ _)) HB.out
  | none =>
  have hB := begins_no l HLL.out i HI.out ⟨#[63]⟩ (by decide) h2 W
  rw [← HS.out] at hB
  have HB := Lib.hid hB
  clear hB
  apply wp_region_lit
  (with_reducible refine wl_k ?_ ?_); exact rfl; intro K hK; go_simp; refine hK _ ?_; clear hK K
  (with_reducible refine wl_k ?_ ?_); exact rfl; intro K hK; go_simp; refine hK _ ?_; clear hK K
  (with_reducible refine wl_ck ?_ ?_); exact rfl; intro K hK; go_simp; refine ⟨_, _, ⟨rfl, rfl⟩, hK _ _ ⟨_, HB.out, ?_⟩⟩; clear hK K; rintro e w1 ⟨rfl, rfl⟩; refine ⟨_, rfl, ?_⟩; simp only [put_lit, List.set_cons_zero, List.set_cons_succ]
  clear HB
  obtain ⟨j, hj⟩ : ∃ j, j = nameEnd l i := ⟨_, rfl⟩
  have hnl := nameEnd_le HI.out
  have hN := name_any l HLL.out i HI.out W
  rw [← HS.out, ← hj] at hN
  rw [← hj] at hnl
  have HNM := Lib.hid hN
  have hij : i ≤ j := hnl.1
  have hjs : j ≤ s.size := by rw [HSZ.out]; exact hnl.2
  have hijI : (i : Int) ≤ (j : Int) := by omega
  have hjI : (j : Int) ≤ (s.size : Int) := by omega
  obtain ⟨x, hx⟩ : ∃ x, x = s.extract i j := ⟨_, rfl⟩
  have HX := Lib.hid hx
  obtain ⟨tw, htw⟩ : ∃ tw, tw = (l.drop i).takeWhile isW := ⟨_, rfl⟩
  have hxe : x = strOf tw := by rw [hx, HS.out, hj, name_ext HI.out, htw]
  have HXE := Lib.hid hxe
  have HXZ : Hid (x.size ≤ maxLen) := Lib.hid (by rw [hxe, htw]; exact tw_small HLL.out)
  have HDJ : Hid (l.drop j = (l.drop i).dropWhile isW) := Lib.hid (by rw [hj]; exact name_drop)
  have HRA : Hid (itAtom (itOne n) (l.drop i) = match takeL [60] (l.drop j) with
      | some s2 => match itTypes (itOne n) 62 (s2.length + 1) [] s2 with
        | some (l, s3) => some (nomT tw l, s3)
        | none => none
      | none => some (nomT tw [], l.drop j)) := Lib.hid (by
    unfold itAtom
    rw [h1]
    simp only [h2, ← HDJ.out, ← htw]
    cases takeL [60] (l.drop j) with
    | none => rfl
    | some s2 =>
      simp only
      cases itTypes (itOne n) 62 (s2.length + 1) [] s2 <;> rfl)
  have HJ2 := Lib.hid hnl.2
  clear h1 h2 hj hnl hN hx hxe htw
  go_upto_region 11 with (fail)
  apply wp_region_lit
  (with_reducible refine wl_k ?_ ?_); exact rfl; intro K hK; go_simp; refine hK _ ?_; clear hK K
  (with_reducible refine wl_k ?_ ?_); exact rfl; intro K hK; go_simp; refine hK _ ?_; clear hK K
  (with_reducible refine wl_ck ?_ ?_); exact rfl; intro K hK; go_simp; refine ⟨_, _, ⟨rfl, rfl⟩, hK _ _ ⟨_, HNM.out, ?_⟩⟩; clear hK K; rintro e w2 ⟨rfl, rfl⟩; refine ⟨_, rfl, ?_⟩; simp only [put_lit, List.set_cons_zero, List.set_cons_succ]
  (with_reducible refine wl_k ?_ ?_); exact rfl; intro K hK; go_simp; refine hK _ ?_; clear hK K
  clear HNM
  go_upto_region 12 with (fail)
  apply wp_region_lit
  (with_reducible refine wl_k ?_ ?_); exact rfl; intro K hK; go_simp; refine hK _ ?_; clear hK K
  (with_reducible refine wl_k ?_ ?_); exact rfl; intro K hK; go_simp; refine hK _ ?_; clear hK K
  (with_reducible refine wl_k ?_ ?_); exact rfl; intro K hK; go_simp; refine hK _ ?_; clear hK K
  (with_reducible refine wl_k ?_ ?_); exact rfl; intro K hK; go_simp; refine hK _ ?_; clear hK K
  rw [← HX.out]
  (with_reducible refine wl_k ?_ ?_); exact rfl; intro K hK; go_simp; refine hK _ ?_; clear hK K
  go_upto_region 13 with (fail)
  apply wp_region_lit
  (with_reducible refine wl_k ?_ ?_); exact rfl; intro K hK; go_simp; refine hK _ ?_; clear hK K
  go_upto_region 14 with (fail)
  obtain ⟨b, hbb⟩ : ∃ b, b = (takeL [60] (l.drop j)).isSome := ⟨_, rfl⟩
  have hB := begins_any l HLL.out j HJ2.out ⟨#[60]⟩ (by decide) W
  rw [← HS.out, ← hbb] at hB
  have HB := Lib.hid hB
  have HBB := Lib.hid hbb
  clear hB hbb
  apply wp_region_lit
  (with_reducible refine wl_k ?_ ?_); exact rfl; intro K hK; go_simp; refine hK _ ?_; clear hK K
  (with_reducible refine wl_k ?_ ?_); exact rfl; intro K hK; go_simp; refine hK _ ?_; clear hK K
  (with_reducible refine wl_ck ?_ ?_); exact rfl; intro K hK; go_simp; refine ⟨_, _, ⟨rfl, rfl⟩, hK _ _ ⟨_, HB.out, ?_⟩⟩; clear hK K; rintro e w1 ⟨rfl, rfl⟩; refine ⟨_, rfl, ?_⟩; simp only [put_lit, List.set_cons_zero, List.set_cons_succ]
  clear HB
  go_upto_if 68 with (fail)
  go_cut [9, 10, 11] (fun v9 v10 v11 wx => ∃ (ts : List Ty) (s3 : List UInt8) (q : Nat) (A7 : Option Addr) (n7 c7 : Nat), v9 = .int .i64 (q : Int) ∧ v10 = .string x ∧ v11 = .slice A7 n7 c7 ∧ Hid (itAtom (itOne n) (l.drop i) = some (nomT tw ts, s3)) ∧ Hid (l.length - s3.length = q) ∧ wx.heap[z]? = some (.cells (cell4 0 ⟨#[]⟩ 0 none 0 0) 24 (0, 0)) ∧ Hid (TysAt wx (fun b => w.heap.size ≤ b ∧ b ≠ z) ts A7 n7 c7) ∧ Below w.heap.size w wx)
  case first =>
    cases h5 : takeL [60] (l.drop j) with
    | none =>
      have HRB : Hid (itAtom (itOne n) (l.drop i) = some (nomT tw [], l.drop j)) := Lib.hid (by have := HRA.out; rw [h5] at this; exact this)
      have HQ : Hid (l.length - (l.drop j).length = j) := Lib.hid (by have := HJ2.out; rw [List.length_drop]; omega)
      obtain rfl : b = false := by rw [HBB.out, h5]; rfl
      clear h5
      go_wp2_with fail
      go_meet
      exact ⟨[], _, j, none, 0, 0, rfl, rfl, rfl, HRB, HQ, hz, Lib.hid (TysAt.nil _ _), hb⟩
    | some s2 =>
      obtain ⟨j1, hj1⟩ : ∃ j1, j1 = j + 1 := ⟨_, rfl⟩
      have hd1 : l.drop j1 = s2 := by rw [hj1]; exact take_drop h5
      have hle1 : j1 ≤ l.length := by rw [hj1]; exact take_le HJ2.out h5
      have hll := take_len h5
      have hRR := HRA.out
      rw [h5] at hRR
      simp only at hRR
      obtain rfl : b = true := by rw [HBB.out, h5]; rfl
      have hj1I : (j : Int) + 1 = (j1 : Int) := by omega
      have hj1w : IntKind.i64.wrap (j1 : Int) = (j1 : Int) := IntWalk.i64_in _ (by have := HLL.out; omega)
      have hn1 : (l.drop j1).length < n := by
        have h1 := HN.out
        simp only [List.length_drop] at h1 ⊢
        omega
      have hT := types_any l HLL.out n HCC.out 62 j1 (s2.length + 1) hle1 hn1 (by rw [hd1]; omega) _ rfl W
      rw [hd1, ← HS.out] at hT
      cases hr : itTypes (itOne n) 62 (s2.length + 1) [] s2 with
      | none =>
        rw [hr] at hT hRR
        have HT := Lib.hid hT
        have HRN := Lib.hid hRR
        clear hT hRR hr hll hle1 hd1 hj1 h5 hn1
        go_upto_region 15 with (fail)
        apply wp_region_lit
        (with_reducible refine wl_k ?_ ?_); exact rfl; intro K hK; go_simp; refine hK _ ?_; clear hK K
        (with_reducible refine wl_k ?_ ?_); exact rfl; intro K hK; go_simp; refine hK _ ?_; clear hK K
        (with_reducible refine wl_k ?_ ?_); exact rfl; intro K hK; go_simp; refine hK _ ?_; clear hK K
        (with_reducible refine wl_ck ?_ ?_); exact rfl; intro K hK; go_simp; refine ⟨_, _, ⟨rfl, rfl⟩, hK _ _ ⟨_, HT.out, ?_⟩⟩; clear hK K; rintro e w9 ⟨rfl, hb9⟩; refine ⟨_, rfl, ?_⟩; simp only [put_lit, List.set_cons_zero, List.set_cons_succ]
        replace hz := below_look hb9 hz; replace hb := hb.trans (hb9.mono hb.size); clear hb9
        (with_reducible refine wl_k ?_ ?_); exact rfl; intro K hK; go_simp; refine hK _ ?_; clear hK K
        (with_reducible refine wl_k ?_ ?_); exact rfl; intro K hK; go_simp; refine hK _ ?_; clear hK K
        (with_reducible refine wl_k ?_ ?_); exact rfl; intro K hK; go_simp; refine hK _ ?_; clear hK K
        (with_reducible refine wl_k ?_ ?_); exact rfl; intro K hK; go_simp; refine hK _ ?_; clear hK K
        (with_reducible refine wl_k ?_ ?_); exact rfl; intro K hK; go_simp; refine hK _ ?_; clear hK K
        clear HT
        go_upto_region 16 with (fail)
        apply wp_region_lit
        (with_reducible refine wl_k ?_ ?_); exact rfl; intro K hK; go_simp; refine hK _ ?_; clear hK K
        (with_reducible refine wl_k ?_ ?_); exact rfl; intro K hK; go_simp; refine hK _ ?_; clear hK K
        go_upto_region 17 with (fail)
        apply wp_region_lit
        refine wl_val rfl (ex_build 24 _ rfl (L := []) rfl built24z) ?_
        simp only [put_lit, List.set_cons_zero, List.set_cons_succ]
        (with_reducible refine wl_put rfl rfl hz ?_); rw [put_noneA]; intro W3 hbx hsz hkx hnx; replace hb := hbx _ _ (by omega) hb; clear hz; have hz := hnx; clear hnx
        (with_reducible refine wl_k ?_ ?_); exact rfl; intro K hK; go_simp; refine hK _ ?_; clear hK K
        clear hbx hkx hsz
        have HZ := Lib.hid hz
        have HB := Lib.hid hb
        clear hz hb
        go_wp2_with fail
        refine bodyPost_ret (res24t rfl _ _ z rfl rfl HZ.out) rfl ?_
        exact OPost.no HRN.out (zero_tree _ _) HB.out
      | some p =>
        obtain ⟨ts, s3⟩ := p
        rw [hr] at hT hRR
        obtain ⟨q, hq⟩ : ∃ q, q = l.length - s3.length := ⟨_, rfl⟩
        have hT2 : Calls Tryd.prog 91 #[.string s, .int .i64 (j1 : Int), .int .u8 62] W fun e w' => ∃ A n c, e = .returned (.tuple #[.slice A n c, .int .i64 (q : Int)]) ∧ OwnT w' W.heap.size (.slice A n c) ts ∧ Below W.heap.size W w' := by rw [hq]; exact hT
        have HT := Lib.hid hT2
        have HRB := Lib.hid hRR
        have HQ : Hid (l.length - s3.length = q) := Lib.hid hq.symm
        have hq0 : ¬ (q : Int) < 0 := by omega
        have hzl := heap_lt hz
        clear hT hT2 hRR hr hll hle1 hd1 hj1 h5 hq hn1
        go_upto_region 15 with (fail)
        apply wp_region_lit
        (with_reducible refine wl_k ?_ ?_); exact rfl; intro K hK; go_simp; refine hK _ ?_; clear hK K
        (with_reducible refine wl_k ?_ ?_); exact rfl; intro K hK; go_simp; refine hK _ ?_; clear hK K
        (with_reducible refine wl_k ?_ ?_); exact rfl; intro K hK; go_simp; refine hK _ ?_; clear hK K
        (with_reducible refine wl_ck ?_ ?_); exact rfl; intro K hK; go_simp; refine ⟨_, _, ⟨rfl, rfl⟩, hK _ _ ⟨_, HT.out, ?_⟩⟩; clear hK K; rintro e w9 ⟨A7, n7, c7, rfl, hown, hb9⟩; refine ⟨_, rfl, ?_⟩; simp only [put_lit, List.set_cons_zero, List.set_cons_succ]
        have HO := Lib.hid hown
        have hwz := hb.size
        replace hz := below_look hb9 hz; replace hb := hb.trans (hb9.mono hb.size); clear hb9
        clear hown
        (with_reducible refine wl_k ?_ ?_); exact rfl; intro K hK; go_simp; refine hK _ ?_; clear hK K
        (with_reducible refine wl_k ?_ ?_); exact rfl; intro K hK; go_simp; refine hK _ ?_; clear hK K
        (with_reducible refine wl_k ?_ ?_); exact rfl; intro K hK; go_simp; refine hK _ ?_; clear hK K
        (with_reducible refine wl_k ?_ ?_); exact rfl; intro K hK; go_simp; refine hK _ ?_; clear hK K
        (with_reducible refine wl_k ?_ ?_); exact rfl; intro K hK; go_simp; refine hK _ ?_; clear hK K
        clear HT
        go_upto_region 16 with (fail)
        apply wp_region_lit
        (with_reducible refine wl_k ?_ ?_); exact rfl; intro K hK; go_simp; refine hK _ ?_; clear hK K
        (with_reducible refine wl_k ?_ ?_); exact rfl; intro K hK; go_simp; refine hK _ ?_; clear hK K
        obtain ⟨A10, l10, c10, he, h9⟩ := HO.out.at
        cases he
        have HTA : Hid (TysAt w9 (fun b => w.heap.size ≤ b ∧ b ≠ z) ts A7 n7 c7) := Lib.hid (h9.mono (fun b (hb : _ ≤ b) => by have := hb; refine ⟨?_, ?_⟩ <;> omega) fun _ _ => rfl)
        clear h9 HO
        go_wp2_with fail
        go_meet
        exact ⟨ts, s3, q, A7, n7, c7, rfl, rfl, rfl, HRB, HQ, hz, HTA, hb⟩
  case rest =>
    clear hz hb
    obtain ⟨ts, s3, q, A7, n7, c7, rfl, rfl, rfl, HRB, HQ, hz, HTA, hb⟩ := hcut
    have HNL := Lib.hid HTA.out.len
    have hcm := HTA.out.cap
    have hmx := HTA.out.max
    unfold maxLen at hmx
    have HTW : Hid (x.toList = tw) := Lib.hid (by rw [HXE.out, ByteArray.toList_eq]; simp [strOf])
    go_upto_region 18 with (fail)
    apply wp_region_lit
    (with_reducible refine wl_k ?_ ?_); exact rfl; intro K hK; go_simp; refine hK _ ?_; clear hK K
    go_upto_region 19 with (fail)
    by_cases h0 : n7 = 0
    · have e0 : ((n7 : Int) == 0) = true := by simp [h0]
      have e1 : ((n7 : Int) == 1) = false := beq_eq_false_iff_ne.2 (by omega)
      have HL0 : Hid (ts.length = 0) := Lib.hid (by rw [HNL.out, h0])
      clear h0
      apply wp_region_lit
      (with_reducible refine wl_k ?_ ?_); exact rfl; intro K hK; go_simp; refine hK _ ?_; clear hK K
      (with_reducible refine wl_k ?_ ?_); exact rfl; intro K hK; go_simp; refine hK _ ?_; clear hK K
      (with_reducible refine wl_k ?_ ?_); exact rfl; intro K hK; go_simp; refine hK _ ?_; clear hK K
      go_upto_region 20 with (fail)
      apply wp_region_lit
      (with_reducible refine wl_k ?_ ?_); exact rfl; intro K hK; go_simp; refine hK _ ?_; clear hK K
      go_upto_region 21 with (fail)
      cases b1 : x.toList == [73, 110, 116] with
      | true =>
        have HX5 := Lib.hid (beq_iff_eq.1 b1)
        have HRC : Hid (itAtom (itOne n) (l.drop i) = some (.node 1 ⟨#[]⟩ 0 ts, s3)) := Lib.hid (by
          have g1 : tw = [73, 110, 116] := by rw [← HTW.out, HX5.out]
          have h2 : ts.length = 0 := HL0.out
          rw [HRB.out]
          unfold nomT; rw [g1]; simp [h2])
        apply wp_region_lit
        (with_reducible refine wl_k ?_ ?_); exact rfl; intro K hK; go_simp; refine hK _ ?_; clear hK K
        (with_reducible refine wl_k ?_ ?_); exact rfl; intro K hK; go_simp; refine hK _ ?_; clear hK K
        clear b1
        go_upto_region 22 with (fail)
        apply wp_region_lit
        (with_reducible refine wl_k ?_ ?_); exact rfl; intro K hK; go_simp; refine hK _ ?_; clear hK K
        go_upto_region 29 with (fail)
        apply wp_region_lit
        (with_reducible refine wl_k ?_ ?_); exact rfl; intro K hK; go_simp; refine hK _ ?_; clear hK K
        (with_reducible refine wl_k ?_ ?_); exact rfl; intro K hK; go_simp; refine hK _ ?_; clear hK K
        (with_reducible refine wl_k ?_ ?_); exact rfl; intro K hK; go_simp; refine hK _ ?_; clear hK K
        (with_reducible refine wl_k ?_ ?_); exact rfl; intro K hK; go_simp; refine hK _ ?_; clear hK K
        (first | ((with_reducible refine wl_skipU ?_ ?_ ?_); exact rfl; exact rfl) | ((with_reducible refine wl_skip ?_ ?_); exact rfl; simp only [put_lit, List.set_cons_zero, List.set_cons_succ]))
        (first | ((with_reducible refine wl_skipU ?_ ?_ ?_); exact rfl; exact rfl) | ((with_reducible refine wl_skip ?_ ?_); exact rfl; simp only [put_lit, List.set_cons_zero, List.set_cons_succ]))
        (with_reducible refine wl_k ?_ ?_); exact rfl; intro K hK; go_simp; refine hK _ ?_; clear hK K
        go_upto_region 31 with (fail)
        apply wp_region_lit
        (with_reducible refine wl_k ?_ ?_); exact rfl; intro K hK; go_simp; refine hK _ ?_; clear hK K
        (with_reducible refine wl_k ?_ ?_); exact rfl; intro K hK; go_simp; refine hK _ ?_; clear hK K
        (with_reducible refine wl_k ?_ ?_); exact rfl; intro K hK; go_simp; refine hK _ ?_; clear hK K
        (with_reducible refine wl_k ?_ ?_); exact rfl; intro K hK; go_simp; refine hK _ ?_; clear hK K
        (first | ((with_reducible refine wl_skipU ?_ ?_ ?_); exact rfl; exact rfl) | ((with_reducible refine wl_skip ?_ ?_); exact rfl; simp only [put_lit, List.set_cons_zero, List.set_cons_succ]))
        (first | ((with_reducible refine wl_skipU ?_ ?_ ?_); exact rfl; exact rfl) | ((with_reducible refine wl_skip ?_ ?_); exact rfl; simp only [put_lit, List.set_cons_zero, List.set_cons_succ]))
        (with_reducible refine wl_k ?_ ?_); exact rfl; intro K hK; go_simp; refine hK _ ?_; clear hK K
        clear e1
        go_upto_region 33 with (fail)
        apply wp_region_lit
        (with_reducible refine wl_k ?_ ?_); exact rfl; intro K hK; go_simp; refine hK _ ?_; clear hK K
        (with_reducible refine wl_k ?_ ?_); exact rfl; intro K hK; go_simp; refine hK _ ?_; clear hK K
        go_upto_region 34 with (fail)
        apply wp_region_lit
        (with_reducible refine wl_k ?_ ?_); exact rfl; intro K hK; go_simp; refine hK _ ?_; clear hK K
        go_upto_region 35 with (fail)
        apply wp_region_lit
        (with_reducible refine wl_k ?_ ?_); exact rfl; intro K hK; go_simp; refine hK _ ?_; clear hK K
        (with_reducible refine wl_k ?_ ?_); exact rfl; intro K hK; go_simp; refine hK _ ?_; clear hK K
        (with_reducible refine wl_k ?_ ?_); exact rfl; intro K hK; go_simp; refine hK _ ?_; clear hK K
        refine wl_val rfl (ex_build 24 _ rfl (L := [(0, .int .i64 1), (1, .string ⟨#[]⟩), (3, .slice A7 n7 c7)]) rfl (built24n 1 ⟨#[]⟩ A7 n7 c7)) ?_
        simp only [put_lit, List.set_cons_zero, List.set_cons_succ]
        (with_reducible refine wl_k ?_ ?_); exact rfl; intro K hK; go_simp; refine hK _ ?_; clear hK K
        (with_reducible refine wl_put rfl rfl hz ?_); rw [put_noneA]; intro W3 hbx hsz hkx hnx; replace hb := hbx _ _ (by omega) hb; clear hz; have hz := hnx; clear hnx
        (with_reducible refine wl_k ?_ ?_); exact rfl; intro K hK; go_simp; refine hK _ ?_; clear hK K
        have HTB : Hid (TysAt W3 (fun b => w.heap.size ≤ b) ts A7 n7 c7) := Lib.hid (HTA.out.mono (fun b h => h.1) (fun b hb => hkx b hb.2))
        clear hbx hkx hsz
        have HZ := Lib.hid hz
        have HB := Lib.hid hb
        clear hz hb
        go_wp2_with fail
        refine bodyPost_ret (res24t rfl _ _ z rfl rfl HZ.out) rfl ?_
        exact OPost.yes HRC.out HQ.out (TyAt.of (by rfl) (by rfl) (Nat.zero_le _) HTB.out) HB.out
      | false =>
      have n1 := Lib.hid (beq_eq_false_iff_ne.1 b1)
      apply wp_region_lit
      (with_reducible refine wl_k ?_ ?_); exact rfl; intro K hK; go_simp; refine hK _ ?_; clear hK K
      (with_reducible refine wl_k ?_ ?_); exact rfl; intro K hK; go_simp; refine hK _ ?_; clear hK K
      clear b1
      go_upto_region 23 with (fail)
      cases b2 : x.toList == [66, 111, 111, 108] with
      | true =>
        have HX5 := Lib.hid (beq_iff_eq.1 b2)
        have HRC : Hid (itAtom (itOne n) (l.drop i) = some (.node 2 ⟨#[]⟩ 0 ts, s3)) := Lib.hid (by
          have g1 : tw = [66, 111, 111, 108] := by rw [← HTW.out, HX5.out]
          have h2 : ts.length = 0 := HL0.out
          rw [HRB.out]
          unfold nomT; rw [g1]; simp [h2])
        apply wp_region_lit
        (with_reducible refine wl_k ?_ ?_); exact rfl; intro K hK; go_simp; refine hK _ ?_; clear hK K
        (with_reducible refine wl_k ?_ ?_); exact rfl; intro K hK; go_simp; refine hK _ ?_; clear hK K
        clear b2
        go_upto_region 24 with (fail)
        apply wp_region_lit
        (with_reducible refine wl_k ?_ ?_); exact rfl; intro K hK; go_simp; refine hK _ ?_; clear hK K
        go_upto_region 29 with (fail)
        apply wp_region_lit
        (with_reducible refine wl_k ?_ ?_); exact rfl; intro K hK; go_simp; refine hK _ ?_; clear hK K
        (with_reducible refine wl_k ?_ ?_); exact rfl; intro K hK; go_simp; refine hK _ ?_; clear hK K
        (with_reducible refine wl_k ?_ ?_); exact rfl; intro K hK; go_simp; refine hK _ ?_; clear hK K
        (with_reducible refine wl_k ?_ ?_); exact rfl; intro K hK; go_simp; refine hK _ ?_; clear hK K
        (first | ((with_reducible refine wl_skipU ?_ ?_ ?_); exact rfl; exact rfl) | ((with_reducible refine wl_skip ?_ ?_); exact rfl; simp only [put_lit, List.set_cons_zero, List.set_cons_succ]))
        (first | ((with_reducible refine wl_skipU ?_ ?_ ?_); exact rfl; exact rfl) | ((with_reducible refine wl_skip ?_ ?_); exact rfl; simp only [put_lit, List.set_cons_zero, List.set_cons_succ]))
        (with_reducible refine wl_k ?_ ?_); exact rfl; intro K hK; go_simp; refine hK _ ?_; clear hK K
        go_upto_region 31 with (fail)
        apply wp_region_lit
        (with_reducible refine wl_k ?_ ?_); exact rfl; intro K hK; go_simp; refine hK _ ?_; clear hK K
        (with_reducible refine wl_k ?_ ?_); exact rfl; intro K hK; go_simp; refine hK _ ?_; clear hK K
        (with_reducible refine wl_k ?_ ?_); exact rfl; intro K hK; go_simp; refine hK _ ?_; clear hK K
        (with_reducible refine wl_k ?_ ?_); exact rfl; intro K hK; go_simp; refine hK _ ?_; clear hK K
        (first | ((with_reducible refine wl_skipU ?_ ?_ ?_); exact rfl; exact rfl) | ((with_reducible refine wl_skip ?_ ?_); exact rfl; simp only [put_lit, List.set_cons_zero, List.set_cons_succ]))
        (first | ((with_reducible refine wl_skipU ?_ ?_ ?_); exact rfl; exact rfl) | ((with_reducible refine wl_skip ?_ ?_); exact rfl; simp only [put_lit, List.set_cons_zero, List.set_cons_succ]))
        (with_reducible refine wl_k ?_ ?_); exact rfl; intro K hK; go_simp; refine hK _ ?_; clear hK K
        clear e1
        go_upto_region 33 with (fail)
        apply wp_region_lit
        (with_reducible refine wl_k ?_ ?_); exact rfl; intro K hK; go_simp; refine hK _ ?_; clear hK K
        (with_reducible refine wl_k ?_ ?_); exact rfl; intro K hK; go_simp; refine hK _ ?_; clear hK K
        go_upto_region 34 with (fail)
        apply wp_region_lit
        (with_reducible refine wl_k ?_ ?_); exact rfl; intro K hK; go_simp; refine hK _ ?_; clear hK K
        go_upto_region 35 with (fail)
        apply wp_region_lit
        (with_reducible refine wl_k ?_ ?_); exact rfl; intro K hK; go_simp; refine hK _ ?_; clear hK K
        (with_reducible refine wl_k ?_ ?_); exact rfl; intro K hK; go_simp; refine hK _ ?_; clear hK K
        (with_reducible refine wl_k ?_ ?_); exact rfl; intro K hK; go_simp; refine hK _ ?_; clear hK K
        refine wl_val rfl (ex_build 24 _ rfl (L := [(0, .int .i64 2), (1, .string ⟨#[]⟩), (3, .slice A7 n7 c7)]) rfl (built24n 2 ⟨#[]⟩ A7 n7 c7)) ?_
        simp only [put_lit, List.set_cons_zero, List.set_cons_succ]
        (with_reducible refine wl_k ?_ ?_); exact rfl; intro K hK; go_simp; refine hK _ ?_; clear hK K
        (with_reducible refine wl_put rfl rfl hz ?_); rw [put_noneA]; intro W3 hbx hsz hkx hnx; replace hb := hbx _ _ (by omega) hb; clear hz; have hz := hnx; clear hnx
        (with_reducible refine wl_k ?_ ?_); exact rfl; intro K hK; go_simp; refine hK _ ?_; clear hK K
        have HTB : Hid (TysAt W3 (fun b => w.heap.size ≤ b) ts A7 n7 c7) := Lib.hid (HTA.out.mono (fun b h => h.1) (fun b hb => hkx b hb.2))
        clear hbx hkx hsz
        have HZ := Lib.hid hz
        have HB := Lib.hid hb
        clear hz hb
        go_wp2_with fail
        refine bodyPost_ret (res24t rfl _ _ z rfl rfl HZ.out) rfl ?_
        exact OPost.yes HRC.out HQ.out (TyAt.of (by rfl) (by rfl) (Nat.zero_le _) HTB.out) HB.out
      | false =>
      have n2 := Lib.hid (beq_eq_false_iff_ne.1 b2)
      apply wp_region_lit
      (with_reducible refine wl_k ?_ ?_); exact rfl; intro K hK; go_simp; refine hK _ ?_; clear hK K
      (with_reducible refine wl_k ?_ ?_); exact rfl; intro K hK; go_simp; refine hK _ ?_; clear hK K
      clear b2
      go_upto_region 25 with (fail)
      cases b3 : x.toList == [84, 101, 120, 116] with
      | true =>
        have HX5 := Lib.hid (beq_iff_eq.1 b3)
        have HRC : Hid (itAtom (itOne n) (l.drop i) = some (.node 3 ⟨#[]⟩ 0 ts, s3)) := Lib.hid (by
          have g1 : tw = [84, 101, 120, 116] := by rw [← HTW.out, HX5.out]
          have h2 : ts.length = 0 := HL0.out
          rw [HRB.out]
          unfold nomT; rw [g1]; simp [h2])
        apply wp_region_lit
        (with_reducible refine wl_k ?_ ?_); exact rfl; intro K hK; go_simp; refine hK _ ?_; clear hK K
        (with_reducible refine wl_k ?_ ?_); exact rfl; intro K hK; go_simp; refine hK _ ?_; clear hK K
        clear b3
        go_upto_region 26 with (fail)
        apply wp_region_lit
        (with_reducible refine wl_k ?_ ?_); exact rfl; intro K hK; go_simp; refine hK _ ?_; clear hK K
        go_upto_region 29 with (fail)
        apply wp_region_lit
        (with_reducible refine wl_k ?_ ?_); exact rfl; intro K hK; go_simp; refine hK _ ?_; clear hK K
        (with_reducible refine wl_k ?_ ?_); exact rfl; intro K hK; go_simp; refine hK _ ?_; clear hK K
        (with_reducible refine wl_k ?_ ?_); exact rfl; intro K hK; go_simp; refine hK _ ?_; clear hK K
        (with_reducible refine wl_k ?_ ?_); exact rfl; intro K hK; go_simp; refine hK _ ?_; clear hK K
        (first | ((with_reducible refine wl_skipU ?_ ?_ ?_); exact rfl; exact rfl) | ((with_reducible refine wl_skip ?_ ?_); exact rfl; simp only [put_lit, List.set_cons_zero, List.set_cons_succ]))
        (first | ((with_reducible refine wl_skipU ?_ ?_ ?_); exact rfl; exact rfl) | ((with_reducible refine wl_skip ?_ ?_); exact rfl; simp only [put_lit, List.set_cons_zero, List.set_cons_succ]))
        (with_reducible refine wl_k ?_ ?_); exact rfl; intro K hK; go_simp; refine hK _ ?_; clear hK K
        go_upto_region 31 with (fail)
        apply wp_region_lit
        (with_reducible refine wl_k ?_ ?_); exact rfl; intro K hK; go_simp; refine hK _ ?_; clear hK K
        (with_reducible refine wl_k ?_ ?_); exact rfl; intro K hK; go_simp; refine hK _ ?_; clear hK K
        (with_reducible refine wl_k ?_ ?_); exact rfl; intro K hK; go_simp; refine hK _ ?_; clear hK K
        (with_reducible refine wl_k ?_ ?_); exact rfl; intro K hK; go_simp; refine hK _ ?_; clear hK K
        (first | ((with_reducible refine wl_skipU ?_ ?_ ?_); exact rfl; exact rfl) | ((with_reducible refine wl_skip ?_ ?_); exact rfl; simp only [put_lit, List.set_cons_zero, List.set_cons_succ]))
        (first | ((with_reducible refine wl_skipU ?_ ?_ ?_); exact rfl; exact rfl) | ((with_reducible refine wl_skip ?_ ?_); exact rfl; simp only [put_lit, List.set_cons_zero, List.set_cons_succ]))
        (with_reducible refine wl_k ?_ ?_); exact rfl; intro K hK; go_simp; refine hK _ ?_; clear hK K
        clear e1
        go_upto_region 33 with (fail)
        apply wp_region_lit
        (with_reducible refine wl_k ?_ ?_); exact rfl; intro K hK; go_simp; refine hK _ ?_; clear hK K
        (with_reducible refine wl_k ?_ ?_); exact rfl; intro K hK; go_simp; refine hK _ ?_; clear hK K
        go_upto_region 34 with (fail)
        apply wp_region_lit
        (with_reducible refine wl_k ?_ ?_); exact rfl; intro K hK; go_simp; refine hK _ ?_; clear hK K
        go_upto_region 35 with (fail)
        apply wp_region_lit
        (with_reducible refine wl_k ?_ ?_); exact rfl; intro K hK; go_simp; refine hK _ ?_; clear hK K
        (with_reducible refine wl_k ?_ ?_); exact rfl; intro K hK; go_simp; refine hK _ ?_; clear hK K
        (with_reducible refine wl_k ?_ ?_); exact rfl; intro K hK; go_simp; refine hK _ ?_; clear hK K
        refine wl_val rfl (ex_build 24 _ rfl (L := [(0, .int .i64 3), (1, .string ⟨#[]⟩), (3, .slice A7 n7 c7)]) rfl (built24n 3 ⟨#[]⟩ A7 n7 c7)) ?_
        simp only [put_lit, List.set_cons_zero, List.set_cons_succ]
        (with_reducible refine wl_k ?_ ?_); exact rfl; intro K hK; go_simp; refine hK _ ?_; clear hK K
        (with_reducible refine wl_put rfl rfl hz ?_); rw [put_noneA]; intro W3 hbx hsz hkx hnx; replace hb := hbx _ _ (by omega) hb; clear hz; have hz := hnx; clear hnx
        (with_reducible refine wl_k ?_ ?_); exact rfl; intro K hK; go_simp; refine hK _ ?_; clear hK K
        have HTB : Hid (TysAt W3 (fun b => w.heap.size ≤ b) ts A7 n7 c7) := Lib.hid (HTA.out.mono (fun b h => h.1) (fun b hb => hkx b hb.2))
        clear hbx hkx hsz
        have HZ := Lib.hid hz
        have HB := Lib.hid hb
        clear hz hb
        go_wp2_with fail
        refine bodyPost_ret (res24t rfl _ _ z rfl rfl HZ.out) rfl ?_
        exact OPost.yes HRC.out HQ.out (TyAt.of (by rfl) (by rfl) (Nat.zero_le _) HTB.out) HB.out
      | false =>
      have n3 := Lib.hid (beq_eq_false_iff_ne.1 b3)
      apply wp_region_lit
      (with_reducible refine wl_k ?_ ?_); exact rfl; intro K hK; go_simp; refine hK _ ?_; clear hK K
      (with_reducible refine wl_k ?_ ?_); exact rfl; intro K hK; go_simp; refine hK _ ?_; clear hK K
      clear b3
      go_upto_region 27 with (fail)
      cases b4 : x.toList == [85, 110, 105, 116] with
      | true =>
        have HX5 := Lib.hid (beq_iff_eq.1 b4)
        have HRC : Hid (itAtom (itOne n) (l.drop i) = some (.node 4 ⟨#[]⟩ 0 ts, s3)) := Lib.hid (by
          have g1 : tw = [85, 110, 105, 116] := by rw [← HTW.out, HX5.out]
          have h2 : ts.length = 0 := HL0.out
          rw [HRB.out]
          unfold nomT; rw [g1]; simp [h2])
        apply wp_region_lit
        (with_reducible refine wl_k ?_ ?_); exact rfl; intro K hK; go_simp; refine hK _ ?_; clear hK K
        (with_reducible refine wl_k ?_ ?_); exact rfl; intro K hK; go_simp; refine hK _ ?_; clear hK K
        clear b4
        go_upto_region 28 with (fail)
        apply wp_region_lit
        (with_reducible refine wl_k ?_ ?_); exact rfl; intro K hK; go_simp; refine hK _ ?_; clear hK K
        go_upto_region 29 with (fail)
        apply wp_region_lit
        (with_reducible refine wl_k ?_ ?_); exact rfl; intro K hK; go_simp; refine hK _ ?_; clear hK K
        (with_reducible refine wl_k ?_ ?_); exact rfl; intro K hK; go_simp; refine hK _ ?_; clear hK K
        (with_reducible refine wl_k ?_ ?_); exact rfl; intro K hK; go_simp; refine hK _ ?_; clear hK K
        (with_reducible refine wl_k ?_ ?_); exact rfl; intro K hK; go_simp; refine hK _ ?_; clear hK K
        (first | ((with_reducible refine wl_skipU ?_ ?_ ?_); exact rfl; exact rfl) | ((with_reducible refine wl_skip ?_ ?_); exact rfl; simp only [put_lit, List.set_cons_zero, List.set_cons_succ]))
        (first | ((with_reducible refine wl_skipU ?_ ?_ ?_); exact rfl; exact rfl) | ((with_reducible refine wl_skip ?_ ?_); exact rfl; simp only [put_lit, List.set_cons_zero, List.set_cons_succ]))
        (with_reducible refine wl_k ?_ ?_); exact rfl; intro K hK; go_simp; refine hK _ ?_; clear hK K
        go_upto_region 31 with (fail)
        apply wp_region_lit
        (with_reducible refine wl_k ?_ ?_); exact rfl; intro K hK; go_simp; refine hK _ ?_; clear hK K
        (with_reducible refine wl_k ?_ ?_); exact rfl; intro K hK; go_simp; refine hK _ ?_; clear hK K
        (with_reducible refine wl_k ?_ ?_); exact rfl; intro K hK; go_simp; refine hK _ ?_; clear hK K
        (with_reducible refine wl_k ?_ ?_); exact rfl; intro K hK; go_simp; refine hK _ ?_; clear hK K
        (first | ((with_reducible refine wl_skipU ?_ ?_ ?_); exact rfl; exact rfl) | ((with_reducible refine wl_skip ?_ ?_); exact rfl; simp only [put_lit, List.set_cons_zero, List.set_cons_succ]))
        (first | ((with_reducible refine wl_skipU ?_ ?_ ?_); exact rfl; exact rfl) | ((with_reducible refine wl_skip ?_ ?_); exact rfl; simp only [put_lit, List.set_cons_zero, List.set_cons_succ]))
        (with_reducible refine wl_k ?_ ?_); exact rfl; intro K hK; go_simp; refine hK _ ?_; clear hK K
        clear e1
        go_upto_region 33 with (fail)
        apply wp_region_lit
        (with_reducible refine wl_k ?_ ?_); exact rfl; intro K hK; go_simp; refine hK _ ?_; clear hK K
        (with_reducible refine wl_k ?_ ?_); exact rfl; intro K hK; go_simp; refine hK _ ?_; clear hK K
        go_upto_region 34 with (fail)
        apply wp_region_lit
        (with_reducible refine wl_k ?_ ?_); exact rfl; intro K hK; go_simp; refine hK _ ?_; clear hK K
        go_upto_region 35 with (fail)
        apply wp_region_lit
        (with_reducible refine wl_k ?_ ?_); exact rfl; intro K hK; go_simp; refine hK _ ?_; clear hK K
        (with_reducible refine wl_k ?_ ?_); exact rfl; intro K hK; go_simp; refine hK _ ?_; clear hK K
        (with_reducible refine wl_k ?_ ?_); exact rfl; intro K hK; go_simp; refine hK _ ?_; clear hK K
        refine wl_val rfl (ex_build 24 _ rfl (L := [(0, .int .i64 4), (1, .string ⟨#[]⟩), (3, .slice A7 n7 c7)]) rfl (built24n 4 ⟨#[]⟩ A7 n7 c7)) ?_
        simp only [put_lit, List.set_cons_zero, List.set_cons_succ]
        (with_reducible refine wl_k ?_ ?_); exact rfl; intro K hK; go_simp; refine hK _ ?_; clear hK K
        (with_reducible refine wl_put rfl rfl hz ?_); rw [put_noneA]; intro W3 hbx hsz hkx hnx; replace hb := hbx _ _ (by omega) hb; clear hz; have hz := hnx; clear hnx
        (with_reducible refine wl_k ?_ ?_); exact rfl; intro K hK; go_simp; refine hK _ ?_; clear hK K
        have HTB : Hid (TysAt W3 (fun b => w.heap.size ≤ b) ts A7 n7 c7) := Lib.hid (HTA.out.mono (fun b h => h.1) (fun b hb => hkx b hb.2))
        clear hbx hkx hsz
        have HZ := Lib.hid hz
        have HB := Lib.hid hb
        clear hz hb
        go_wp2_with fail
        refine bodyPost_ret (res24t rfl _ _ z rfl rfl HZ.out) rfl ?_
        exact OPost.yes HRC.out HQ.out (TyAt.of (by rfl) (by rfl) (Nat.zero_le _) HTB.out) HB.out
      | false =>
      have n4 := Lib.hid (beq_eq_false_iff_ne.1 b4)
      apply wp_region_lit
      (with_reducible refine wl_k ?_ ?_); exact rfl; intro K hK; go_simp; refine hK _ ?_; clear hK K
      (with_reducible refine wl_k ?_ ?_); exact rfl; intro K hK; go_simp; refine hK _ ?_; clear hK K
      clear b4
      have HRC : Hid (itAtom (itOne n) (l.drop i) = some (.node 6 x 0 ts, s3)) := Lib.hid (by
        have g1 : tw ≠ [73, 110, 116] := fun e => n1.out (by rw [HTW.out, e])
        have g2 : tw ≠ [66, 111, 111, 108] := fun e => n2.out (by rw [HTW.out, e])
        have g3 : tw ≠ [84, 101, 120, 116] := fun e => n3.out (by rw [HTW.out, e])
        have g4 : tw ≠ [85, 110, 105, 116] := fun e => n4.out (by rw [HTW.out, e])
        have h2 : ts.length = 0 := HL0.out
        rw [HRB.out]
        unfold nomT; simp [g1, g2, g3, g4, h2, ← HXE.out])
      go_upto_region 29 with (fail)
      apply wp_region_lit
      (with_reducible refine wl_k ?_ ?_); exact rfl; intro K hK; go_simp; refine hK _ ?_; clear hK K
      (with_reducible refine wl_k ?_ ?_); exact rfl; intro K hK; go_simp; refine hK _ ?_; clear hK K
      (with_reducible refine wl_k ?_ ?_); exact rfl; intro K hK; go_simp; refine hK _ ?_; clear hK K
      (with_reducible refine wl_k ?_ ?_); exact rfl; intro K hK; go_simp; refine hK _ ?_; clear hK K
      (first | ((with_reducible refine wl_skipU ?_ ?_ ?_); exact rfl; exact rfl) | ((with_reducible refine wl_skip ?_ ?_); exact rfl; simp only [put_lit, List.set_cons_zero, List.set_cons_succ]))
      (first | ((with_reducible refine wl_skipU ?_ ?_ ?_); exact rfl; exact rfl) | ((with_reducible refine wl_skip ?_ ?_); exact rfl; simp only [put_lit, List.set_cons_zero, List.set_cons_succ]))
      (with_reducible refine wl_k ?_ ?_); exact rfl; intro K hK; go_simp; refine hK _ ?_; clear hK K
      go_upto_region 31 with (fail)
      apply wp_region_lit
      (with_reducible refine wl_k ?_ ?_); exact rfl; intro K hK; go_simp; refine hK _ ?_; clear hK K
      (with_reducible refine wl_k ?_ ?_); exact rfl; intro K hK; go_simp; refine hK _ ?_; clear hK K
      (with_reducible refine wl_k ?_ ?_); exact rfl; intro K hK; go_simp; refine hK _ ?_; clear hK K
      (with_reducible refine wl_k ?_ ?_); exact rfl; intro K hK; go_simp; refine hK _ ?_; clear hK K
      (first | ((with_reducible refine wl_skipU ?_ ?_ ?_); exact rfl; exact rfl) | ((with_reducible refine wl_skip ?_ ?_); exact rfl; simp only [put_lit, List.set_cons_zero, List.set_cons_succ]))
      (first | ((with_reducible refine wl_skipU ?_ ?_ ?_); exact rfl; exact rfl) | ((with_reducible refine wl_skip ?_ ?_); exact rfl; simp only [put_lit, List.set_cons_zero, List.set_cons_succ]))
      (with_reducible refine wl_k ?_ ?_); exact rfl; intro K hK; go_simp; refine hK _ ?_; clear hK K
      clear e1
      go_upto_region 33 with (fail)
      apply wp_region_lit
      (with_reducible refine wl_k ?_ ?_); exact rfl; intro K hK; go_simp; refine hK _ ?_; clear hK K
      (with_reducible refine wl_k ?_ ?_); exact rfl; intro K hK; go_simp; refine hK _ ?_; clear hK K
      go_upto_region 35 with (fail)
      apply wp_region_lit
      (with_reducible refine wl_k ?_ ?_); exact rfl; intro K hK; go_simp; refine hK _ ?_; clear hK K
      (with_reducible refine wl_k ?_ ?_); exact rfl; intro K hK; go_simp; refine hK _ ?_; clear hK K
      (with_reducible refine wl_k ?_ ?_); exact rfl; intro K hK; go_simp; refine hK _ ?_; clear hK K
      refine wl_val rfl (ex_build 24 _ rfl (L := [(0, .int .i64 6), (1, .string x), (3, .slice A7 n7 c7)]) rfl (built24n 6 x A7 n7 c7)) ?_
      simp only [put_lit, List.set_cons_zero, List.set_cons_succ]
      (with_reducible refine wl_k ?_ ?_); exact rfl; intro K hK; go_simp; refine hK _ ?_; clear hK K
      (with_reducible refine wl_put rfl rfl hz ?_); rw [put_noneA]; intro W3 hbx hsz hkx hnx; replace hb := hbx _ _ (by omega) hb; clear hz; have hz := hnx; clear hnx
      (with_reducible refine wl_k ?_ ?_); exact rfl; intro K hK; go_simp; refine hK _ ?_; clear hK K
      have HTB : Hid (TysAt W3 (fun b => w.heap.size ≤ b) ts A7 n7 c7) := Lib.hid (HTA.out.mono (fun b h => h.1) (fun b hb => hkx b hb.2))
      clear hbx hkx hsz
      have HZ := Lib.hid hz
      have HB := Lib.hid hb
      clear hz hb
      go_wp2_with fail
      refine bodyPost_ret (res24t rfl _ _ z rfl rfl HZ.out) rfl ?_
      exact OPost.yes HRC.out HQ.out (TyAt.of (by rfl) (by rfl) HXZ.out HTB.out) HB.out
    have e0 : ((n7 : Int) == 0) = false := beq_eq_false_iff_ne.2 (by omega)
    apply wp_region_lit
    (with_reducible refine wl_k ?_ ?_); exact rfl; intro K hK; go_simp; refine hK _ ?_; clear hK K
    (with_reducible refine wl_k ?_ ?_); exact rfl; intro K hK; go_simp; refine hK _ ?_; clear hK K
    (with_reducible refine wl_k ?_ ?_); exact rfl; intro K hK; go_simp; refine hK _ ?_; clear hK K
    clear e0
    by_cases h1 : n7 = 1
    · have e1 : ((n7 : Int) == 1) = true := by simp [h1]
      have HL1 : Hid (ts.length = 1) := Lib.hid (by rw [HNL.out, h1])
      clear h1 h0
      go_upto_region 29 with (fail)
      cases ba : x.toList == [65, 114, 114, 97, 121] with
      | true =>
        have HX5 := Lib.hid (beq_iff_eq.1 ba)
        have bw : (x.toList == [87, 101, 97, 107]) = false := by rw [HX5.out]; rfl
        have HRC : Hid (itAtom (itOne n) (l.drop i) = some (.node 5 ⟨#[]⟩ 0 ts, s3)) := Lib.hid (by
          have g1 : tw = [65, 114, 114, 97, 121] := by rw [← HTW.out, HX5.out]
          have h2 : ts.length = 1 := HL1.out
          rw [HRB.out]
          unfold nomT; rw [g1]; simp [h2])
        apply wp_region_lit
        (with_reducible refine wl_k ?_ ?_); exact rfl; intro K hK; go_simp; refine hK _ ?_; clear hK K
        (with_reducible refine wl_k ?_ ?_); exact rfl; intro K hK; go_simp; refine hK _ ?_; clear hK K
        (with_reducible refine wl_k ?_ ?_); exact rfl; intro K hK; go_simp; refine hK _ ?_; clear hK K
        (with_reducible refine wl_k ?_ ?_); exact rfl; intro K hK; go_simp; refine hK _ ?_; clear hK K
        (with_reducible refine wl_k ?_ ?_); exact rfl; intro K hK; go_simp; refine hK _ ?_; clear hK K
        (with_reducible refine wl_k ?_ ?_); exact rfl; intro K hK; go_simp; refine hK _ ?_; clear hK K
        (with_reducible refine wl_k ?_ ?_); exact rfl; intro K hK; go_simp; refine hK _ ?_; clear hK K
        go_upto_region 30 with (fail)
        apply wp_region_lit
        (with_reducible refine wl_k ?_ ?_); exact rfl; intro K hK; go_simp; refine hK _ ?_; clear hK K
        go_upto_region 31 with (fail)
        apply wp_region_lit
        (with_reducible refine wl_k ?_ ?_); exact rfl; intro K hK; go_simp; refine hK _ ?_; clear hK K
        (with_reducible refine wl_k ?_ ?_); exact rfl; intro K hK; go_simp; refine hK _ ?_; clear hK K
        (with_reducible refine wl_k ?_ ?_); exact rfl; intro K hK; go_simp; refine hK _ ?_; clear hK K
        (with_reducible refine wl_k ?_ ?_); exact rfl; intro K hK; go_simp; refine hK _ ?_; clear hK K
        (with_reducible refine wl_k ?_ ?_); exact rfl; intro K hK; go_simp; refine hK _ ?_; clear hK K
        (with_reducible refine wl_k ?_ ?_); exact rfl; intro K hK; go_simp; refine hK _ ?_; clear hK K
        (with_reducible refine wl_k ?_ ?_); exact rfl; intro K hK; go_simp; refine hK _ ?_; clear hK K
        clear ba bw
        go_upto_region 33 with (fail)
        apply wp_region_lit
        (with_reducible refine wl_k ?_ ?_); exact rfl; intro K hK; go_simp; refine hK _ ?_; clear hK K
        (with_reducible refine wl_k ?_ ?_); exact rfl; intro K hK; go_simp; refine hK _ ?_; clear hK K
        go_upto_region 34 with (fail)
        apply wp_region_lit
        (with_reducible refine wl_k ?_ ?_); exact rfl; intro K hK; go_simp; refine hK _ ?_; clear hK K
        go_upto_region 35 with (fail)
        apply wp_region_lit
        (with_reducible refine wl_k ?_ ?_); exact rfl; intro K hK; go_simp; refine hK _ ?_; clear hK K
        (with_reducible refine wl_k ?_ ?_); exact rfl; intro K hK; go_simp; refine hK _ ?_; clear hK K
        (with_reducible refine wl_k ?_ ?_); exact rfl; intro K hK; go_simp; refine hK _ ?_; clear hK K
        refine wl_val rfl (ex_build 24 _ rfl (L := [(0, .int .i64 5), (1, .string ⟨#[]⟩), (3, .slice A7 n7 c7)]) rfl (built24n 5 ⟨#[]⟩ A7 n7 c7)) ?_
        simp only [put_lit, List.set_cons_zero, List.set_cons_succ]
        (with_reducible refine wl_k ?_ ?_); exact rfl; intro K hK; go_simp; refine hK _ ?_; clear hK K
        (with_reducible refine wl_put rfl rfl hz ?_); rw [put_noneA]; intro W3 hbx hsz hkx hnx; replace hb := hbx _ _ (by omega) hb; clear hz; have hz := hnx; clear hnx
        (with_reducible refine wl_k ?_ ?_); exact rfl; intro K hK; go_simp; refine hK _ ?_; clear hK K
        have HTB : Hid (TysAt W3 (fun b => w.heap.size ≤ b) ts A7 n7 c7) := Lib.hid (HTA.out.mono (fun b h => h.1) (fun b hb => hkx b hb.2))
        clear hbx hkx hsz
        have HZ := Lib.hid hz
        have HB := Lib.hid hb
        clear hz hb
        go_wp2_with fail
        refine bodyPost_ret (res24t rfl _ _ z rfl rfl HZ.out) rfl ?_
        exact OPost.yes HRC.out HQ.out (TyAt.of (by rfl) (by rfl) (Nat.zero_le _) HTB.out) HB.out
      | false =>
      have n1 := Lib.hid (beq_eq_false_iff_ne.1 ba)
      apply wp_region_lit
      (with_reducible refine wl_k ?_ ?_); exact rfl; intro K hK; go_simp; refine hK _ ?_; clear hK K
      (with_reducible refine wl_k ?_ ?_); exact rfl; intro K hK; go_simp; refine hK _ ?_; clear hK K
      (with_reducible refine wl_k ?_ ?_); exact rfl; intro K hK; go_simp; refine hK _ ?_; clear hK K
      (with_reducible refine wl_k ?_ ?_); exact rfl; intro K hK; go_simp; refine hK _ ?_; clear hK K
      (with_reducible refine wl_k ?_ ?_); exact rfl; intro K hK; go_simp; refine hK _ ?_; clear hK K
      (with_reducible refine wl_k ?_ ?_); exact rfl; intro K hK; go_simp; refine hK _ ?_; clear hK K
      (with_reducible refine wl_k ?_ ?_); exact rfl; intro K hK; go_simp; refine hK _ ?_; clear hK K
      clear ba
      go_upto_region 31 with (fail)
      cases bw : x.toList == [87, 101, 97, 107] with
      | true =>
        have HX5 := Lib.hid (beq_iff_eq.1 bw)
        have HRC : Hid (itAtom (itOne n) (l.drop i) = some (.node 11 ⟨#[]⟩ 0 ts, s3)) := Lib.hid (by
          have g1 : tw = [87, 101, 97, 107] := by rw [← HTW.out, HX5.out]
          have h2 : ts.length = 1 := HL1.out
          rw [HRB.out]
          unfold nomT; rw [g1]; simp [h2])
        apply wp_region_lit
        (with_reducible refine wl_k ?_ ?_); exact rfl; intro K hK; go_simp; refine hK _ ?_; clear hK K
        (with_reducible refine wl_k ?_ ?_); exact rfl; intro K hK; go_simp; refine hK _ ?_; clear hK K
        (with_reducible refine wl_k ?_ ?_); exact rfl; intro K hK; go_simp; refine hK _ ?_; clear hK K
        (with_reducible refine wl_k ?_ ?_); exact rfl; intro K hK; go_simp; refine hK _ ?_; clear hK K
        (with_reducible refine wl_k ?_ ?_); exact rfl; intro K hK; go_simp; refine hK _ ?_; clear hK K
        (with_reducible refine wl_k ?_ ?_); exact rfl; intro K hK; go_simp; refine hK _ ?_; clear hK K
        (with_reducible refine wl_k ?_ ?_); exact rfl; intro K hK; go_simp; refine hK _ ?_; clear hK K
        go_upto_region 32 with (fail)
        apply wp_region_lit
        (with_reducible refine wl_k ?_ ?_); exact rfl; intro K hK; go_simp; refine hK _ ?_; clear hK K
        clear bw
        go_upto_region 33 with (fail)
        apply wp_region_lit
        (with_reducible refine wl_k ?_ ?_); exact rfl; intro K hK; go_simp; refine hK _ ?_; clear hK K
        (with_reducible refine wl_k ?_ ?_); exact rfl; intro K hK; go_simp; refine hK _ ?_; clear hK K
        go_upto_region 34 with (fail)
        apply wp_region_lit
        (with_reducible refine wl_k ?_ ?_); exact rfl; intro K hK; go_simp; refine hK _ ?_; clear hK K
        go_upto_region 35 with (fail)
        apply wp_region_lit
        (with_reducible refine wl_k ?_ ?_); exact rfl; intro K hK; go_simp; refine hK _ ?_; clear hK K
        (with_reducible refine wl_k ?_ ?_); exact rfl; intro K hK; go_simp; refine hK _ ?_; clear hK K
        (with_reducible refine wl_k ?_ ?_); exact rfl; intro K hK; go_simp; refine hK _ ?_; clear hK K
        refine wl_val rfl (ex_build 24 _ rfl (L := [(0, .int .i64 11), (1, .string ⟨#[]⟩), (3, .slice A7 n7 c7)]) rfl (built24n 11 ⟨#[]⟩ A7 n7 c7)) ?_
        simp only [put_lit, List.set_cons_zero, List.set_cons_succ]
        (with_reducible refine wl_k ?_ ?_); exact rfl; intro K hK; go_simp; refine hK _ ?_; clear hK K
        (with_reducible refine wl_put rfl rfl hz ?_); rw [put_noneA]; intro W3 hbx hsz hkx hnx; replace hb := hbx _ _ (by omega) hb; clear hz; have hz := hnx; clear hnx
        (with_reducible refine wl_k ?_ ?_); exact rfl; intro K hK; go_simp; refine hK _ ?_; clear hK K
        have HTB : Hid (TysAt W3 (fun b => w.heap.size ≤ b) ts A7 n7 c7) := Lib.hid (HTA.out.mono (fun b h => h.1) (fun b hb => hkx b hb.2))
        clear hbx hkx hsz
        have HZ := Lib.hid hz
        have HB := Lib.hid hb
        clear hz hb
        go_wp2_with fail
        refine bodyPost_ret (res24t rfl _ _ z rfl rfl HZ.out) rfl ?_
        exact OPost.yes HRC.out HQ.out (TyAt.of (by rfl) (by rfl) (Nat.zero_le _) HTB.out) HB.out
      | false =>
      have n2 := Lib.hid (beq_eq_false_iff_ne.1 bw)
      apply wp_region_lit
      (with_reducible refine wl_k ?_ ?_); exact rfl; intro K hK; go_simp; refine hK _ ?_; clear hK K
      (with_reducible refine wl_k ?_ ?_); exact rfl; intro K hK; go_simp; refine hK _ ?_; clear hK K
      (with_reducible refine wl_k ?_ ?_); exact rfl; intro K hK; go_simp; refine hK _ ?_; clear hK K
      (with_reducible refine wl_k ?_ ?_); exact rfl; intro K hK; go_simp; refine hK _ ?_; clear hK K
      (with_reducible refine wl_k ?_ ?_); exact rfl; intro K hK; go_simp; refine hK _ ?_; clear hK K
      (with_reducible refine wl_k ?_ ?_); exact rfl; intro K hK; go_simp; refine hK _ ?_; clear hK K
      (with_reducible refine wl_k ?_ ?_); exact rfl; intro K hK; go_simp; refine hK _ ?_; clear hK K
      clear bw
      have HRC : Hid (itAtom (itOne n) (l.drop i) = some (.node 6 x 0 ts, s3)) := Lib.hid (by
        have g1 : tw ≠ [65, 114, 114, 97, 121] := fun e => n1.out (by rw [HTW.out, e])
        have g2 : tw ≠ [87, 101, 97, 107] := fun e => n2.out (by rw [HTW.out, e])
        have h2 : ts.length = 1 := HL1.out
        rw [HRB.out]
        unfold nomT; simp [g1, g2, h2, ← HXE.out])
      go_upto_region 33 with (fail)
      apply wp_region_lit
      (with_reducible refine wl_k ?_ ?_); exact rfl; intro K hK; go_simp; refine hK _ ?_; clear hK K
      (with_reducible refine wl_k ?_ ?_); exact rfl; intro K hK; go_simp; refine hK _ ?_; clear hK K
      go_upto_region 35 with (fail)
      apply wp_region_lit
      (with_reducible refine wl_k ?_ ?_); exact rfl; intro K hK; go_simp; refine hK _ ?_; clear hK K
      (with_reducible refine wl_k ?_ ?_); exact rfl; intro K hK; go_simp; refine hK _ ?_; clear hK K
      (with_reducible refine wl_k ?_ ?_); exact rfl; intro K hK; go_simp; refine hK _ ?_; clear hK K
      refine wl_val rfl (ex_build 24 _ rfl (L := [(0, .int .i64 6), (1, .string x), (3, .slice A7 n7 c7)]) rfl (built24n 6 x A7 n7 c7)) ?_
      simp only [put_lit, List.set_cons_zero, List.set_cons_succ]
      (with_reducible refine wl_k ?_ ?_); exact rfl; intro K hK; go_simp; refine hK _ ?_; clear hK K
      (with_reducible refine wl_put rfl rfl hz ?_); rw [put_noneA]; intro W3 hbx hsz hkx hnx; replace hb := hbx _ _ (by omega) hb; clear hz; have hz := hnx; clear hnx
      (with_reducible refine wl_k ?_ ?_); exact rfl; intro K hK; go_simp; refine hK _ ?_; clear hK K
      have HTB : Hid (TysAt W3 (fun b => w.heap.size ≤ b) ts A7 n7 c7) := Lib.hid (HTA.out.mono (fun b h => h.1) (fun b hb => hkx b hb.2))
      clear hbx hkx hsz
      have HZ := Lib.hid hz
      have HB := Lib.hid hb
      clear hz hb
      go_wp2_with fail
      refine bodyPost_ret (res24t rfl _ _ z rfl rfl HZ.out) rfl ?_
      exact OPost.yes HRC.out HQ.out (TyAt.of (by rfl) (by rfl) HXZ.out HTB.out) HB.out
    · have e1 : ((n7 : Int) == 1) = false := beq_eq_false_iff_ne.2 (by omega)
      have HRC : Hid (itAtom (itOne n) (l.drop i) = some (.node 6 x 0 ts, s3)) := Lib.hid (by
        have g1 : ¬ ts.length = 1 := by rw [HNL.out]; exact h1
        have g0 : ¬ ts.length = 0 := by rw [HNL.out]; exact h0
        have g2 : ts ≠ [] := fun e => g0 (by rw [e]; rfl)
        rw [HRB.out]
        unfold nomT; simp [g1, g2, ← HXE.out])
      clear h1 h0
      go_upto_region 29 with (fail)
      apply wp_region_lit
      (with_reducible refine wl_k ?_ ?_); exact rfl; intro K hK; go_simp; refine hK _ ?_; clear hK K
      (with_reducible refine wl_k ?_ ?_); exact rfl; intro K hK; go_simp; refine hK _ ?_; clear hK K
      (with_reducible refine wl_k ?_ ?_); exact rfl; intro K hK; go_simp; refine hK _ ?_; clear hK K
      (with_reducible refine wl_k ?_ ?_); exact rfl; intro K hK; go_simp; refine hK _ ?_; clear hK K
      (first | ((with_reducible refine wl_skipU ?_ ?_ ?_); exact rfl; exact rfl) | ((with_reducible refine wl_skip ?_ ?_); exact rfl; simp only [put_lit, List.set_cons_zero, List.set_cons_succ]))
      (first | ((with_reducible refine wl_skipU ?_ ?_ ?_); exact rfl; exact rfl) | ((with_reducible refine wl_skip ?_ ?_); exact rfl; simp only [put_lit, List.set_cons_zero, List.set_cons_succ]))
      (with_reducible refine wl_k ?_ ?_); exact rfl; intro K hK; go_simp; refine hK _ ?_; clear hK K
      go_upto_region 31 with (fail)
      apply wp_region_lit
      (with_reducible refine wl_k ?_ ?_); exact rfl; intro K hK; go_simp; refine hK _ ?_; clear hK K
      (with_reducible refine wl_k ?_ ?_); exact rfl; intro K hK; go_simp; refine hK _ ?_; clear hK K
      (with_reducible refine wl_k ?_ ?_); exact rfl; intro K hK; go_simp; refine hK _ ?_; clear hK K
      (with_reducible refine wl_k ?_ ?_); exact rfl; intro K hK; go_simp; refine hK _ ?_; clear hK K
      (first | ((with_reducible refine wl_skipU ?_ ?_ ?_); exact rfl; exact rfl) | ((with_reducible refine wl_skip ?_ ?_); exact rfl; simp only [put_lit, List.set_cons_zero, List.set_cons_succ]))
      (first | ((with_reducible refine wl_skipU ?_ ?_ ?_); exact rfl; exact rfl) | ((with_reducible refine wl_skip ?_ ?_); exact rfl; simp only [put_lit, List.set_cons_zero, List.set_cons_succ]))
      (with_reducible refine wl_k ?_ ?_); exact rfl; intro K hK; go_simp; refine hK _ ?_; clear hK K
      clear e1
      go_upto_region 33 with (fail)
      apply wp_region_lit
      (with_reducible refine wl_k ?_ ?_); exact rfl; intro K hK; go_simp; refine hK _ ?_; clear hK K
      (with_reducible refine wl_k ?_ ?_); exact rfl; intro K hK; go_simp; refine hK _ ?_; clear hK K
      go_upto_region 35 with (fail)
      apply wp_region_lit
      (with_reducible refine wl_k ?_ ?_); exact rfl; intro K hK; go_simp; refine hK _ ?_; clear hK K
      (with_reducible refine wl_k ?_ ?_); exact rfl; intro K hK; go_simp; refine hK _ ?_; clear hK K
      (with_reducible refine wl_k ?_ ?_); exact rfl; intro K hK; go_simp; refine hK _ ?_; clear hK K
      refine wl_val rfl (ex_build 24 _ rfl (L := [(0, .int .i64 6), (1, .string x), (3, .slice A7 n7 c7)]) rfl (built24n 6 x A7 n7 c7)) ?_
      simp only [put_lit, List.set_cons_zero, List.set_cons_succ]
      (with_reducible refine wl_k ?_ ?_); exact rfl; intro K hK; go_simp; refine hK _ ?_; clear hK K
      (with_reducible refine wl_put rfl rfl hz ?_); rw [put_noneA]; intro W3 hbx hsz hkx hnx; replace hb := hbx _ _ (by omega) hb; clear hz; have hz := hnx; clear hnx
      (with_reducible refine wl_k ?_ ?_); exact rfl; intro K hK; go_simp; refine hK _ ?_; clear hK K
      have HTB : Hid (TysAt W3 (fun b => w.heap.size ≤ b) ts A7 n7 c7) := Lib.hid (HTA.out.mono (fun b h => h.1) (fun b hb => hkx b hb.2))
      clear hbx hkx hsz
      have HZ := Lib.hid hz
      have HB := Lib.hid hb
      clear hz hb
      go_wp2_with fail
      refine bodyPost_ret (res24t rfl _ _ z rfl rfl HZ.out) rfl ?_
      exact OPost.yes HRC.out HQ.out (TyAt.of (by rfl) (by rfl) HXZ.out HTB.out) HB.out
end Go.Proofs.YtokmaehefenpmaaDoor
