/- The document's reader in memory: one, whatever the text. The reader in memory: typ, at any depth. Both readers accept the same texts, plainly. No program in sight. The document's Number, Open. The document's list of texts. -/
import Derived.Test.YtokmaehefenpmaaDoorPA11
import Derived.Test.YtokmaehefenpmaaDoorPA12
import Derived.Test.YtokmaehefenpmaaDoorPA10
import Derived.Laws.IdiomStrings
import Derived.Test.YtokmaehefenpmaaDoorPA8
namespace Go.Proofs.YtokmaehefenpmaaDoor
open Go.RowKit Go.Proofs.YtokmaehefenpmaaDoor.Nm
set_option linter.unusedSimpArgs false
theorem itTypes_cnt {rd : List UInt8 → Option (Ty × List UInt8)} (hr : SufI rd) (e : UInt8) : ∀ (n : Nat) (acc : List Ty) (s : List UInt8) (l : List Ty) (s' : List UInt8), itTypes rd e n acc s = some (l, s') → l.length ≤ acc.length + s.length
  | 0, _, _, _, _, h => by simp [itTypes] at h
  | n + 1, acc, s, l, s', h => by
    simp only [itTypes] at h
    split at h
    · cases h
    · cases h
    · rename_i t c s1 h1
      have h2 := (hr _ _ _ h1).length_le
      simp at h2
      split at h
      · cases h; simp; omega
      · split at h
        · cases h
        · rename_i s2 h3
          have h4 := take_len h3
          have := itTypes_cnt hr e n _ _ _ _ h
          simp at h4 this; omega
theorem itArgs_cnt {rd : List UInt8 → Option (Ty × List UInt8)} (hr : SufI rd) {s : List UInt8} {l : List Ty} {s' : List UInt8} (h : itArgs rd s = some (l, s')) : l.length ≤ s.length := by
  unfold itArgs at h
  split at h
  · cases h; simp
  · have := itTypes_cnt hr _ _ _ _ _ _ h
    simpa using this
theorem take_two {a b : UInt8} {S s1 : List UInt8} (h : takeL [a] S = some s1) : takeL [a, b] S = takeL [b] s1 := by
  have h2 := take_is h
  cases S with
  | nil => simp at h2
  | cons c S =>
    have h1 : c = a := by have := h2.1; simpa using this
    have h3 : S = s1 := by
      unfold takeL at h
      split at h
      · simpa using h
      · cases h
    subst h1 h3
    unfold takeL
    cases S with
    | nil => simp
    | cons d S => simp
theorem built24q (A : Option Addr) (l c : Nat) : Tryd.prog.built 24 [(0, .int .i64 10), (3, .slice A l c)] = some (cell4 10 ⟨#[]⟩ 0 A l c) := by kernel_rfl
/-- The parts of a function ahead of its result. -/
def ArgsI (l : List UInt8) (R : Option (List Ty × List UInt8)) (B : Nat) (wx : World) (q : Int) (v : Value) : Prop := match R with
  | some (ts, s2) => q = ((l.length - s2.length : Nat) : Int) ∧ OwnT wx B v ts
  | none => q = -1
/-- What stands when a point may come. -/
def DotJ (l : List UInt8) (R : Option (Ty × List UInt8)) (w : World) (z z11 : Nat) (v : Value) (wr : World) : Prop := ∃ (u : Ty) (j : Int) (k : Int) (s : ByteArray) (n : Int) (A : Option Addr) (lA cA : Nat), v = .int .i64 j ∧ wr.heap[z]? = some (.cells (cell4 0 ⟨#[]⟩ 0 none 0 0) 24 (0, 0)) ∧ wr.heap[z11]? = some (.cells (cell4 k s n A lA cA) 24 (0, 0)) ∧ Hid (TyAt wr (fun b => w.heap.size ≤ b ∧ b ≠ z ∧ b ≠ z11) u (cell4 k s n A lA cA)) ∧ Below w.heap.size w wr ∧ Hid ((j = -1 ∧ R = none) ∨ ∃ q m' : Nat, j = (q : Int) ∧ q ≤ l.length ∧ (l.drop q).length < m' ∧ R = some (dots m' u (l.drop q)))
set_option maxHeartbeats 8000000 in
set_option maxRecDepth 100000 in
theorem one_succ (l : List UInt8) (hl : l.length ≤ 10000) (n : Nat) (hC : OneC l n) : OneC l (n + 1) := fun i hi hn w => by
  obtain ⟨s, hs⟩ : ∃ s, s = strOf l := ⟨_, rfl⟩
  have hsz : s.size = l.length := by rw [hs, strOf_size]
  have hs1 : s.size ≤ 10000 := by omega
  have HS := Lib.hid hs
  have HSZ := Lib.hid hsz
  have HCC := Lib.hid hC
  have HLL := Lib.hid hl
  have HI := Lib.hid hi
  have HN := Lib.hid hn
  have his : i ≤ s.size := by omega
  have hiw : IntKind.i64.wrap (i : Int) = (i : Int) := IntWalk.i64_in _ (by omega)
  rw [← hs]
  clear hs hC hl hsz hn hi
  have hb := Below.refl w.heap.size w
  go_enter Tryd.func64, Tryd.ntmps64
  go_upto_region 0 with (fail)
  apply wp_region_lit
  (with_reducible refine wl_all ?_); intro W z hbn hlz hz; replace hb := hb.trans (hbn.mono hb.size); clear hbn; simp only [put_lit, List.set_cons_zero, List.set_cons_succ]
  (with_reducible refine wl_k ?_ ?_); exact rfl; intro K hK; go_simp; refine hK _ ?_; clear hK K
  go_upto_region 1 with (fail)
  cases h1 : takeL [40] ((l.drop i)) with
  | some s1 =>
    obtain ⟨i1, hi1⟩ : ∃ i1, i1 = i + 1 := ⟨_, rfl⟩
    have hd1 : l.drop i1 = s1 := by rw [hi1]; exact take_drop h1
    have hle1 : i1 ≤ l.length := by rw [hi1]; exact take_le HI.out h1
    have HRA : Hid (itOne (n + 1) (l.drop i) = itFn (itOne n) s1) := Lib.hid (by simp only [itOne, h1])
    have ht2 := take_two (b := 41) h1
    have hB := begins_yes l HLL.out i HI.out ⟨#[40]⟩ s1 h1 W
    rw [← HS.out] at hB
    have HB := Lib.hid hB
    clear hB
    apply wp_region_lit
    (with_reducible refine wl_k ?_ ?_); exact rfl; intro K hK; go_simp; refine hK _ ?_; clear hK K
    (with_reducible refine wl_k ?_ ?_); exact rfl; intro K hK; go_simp; refine hK _ ?_; clear hK K
    (with_reducible refine wl_ck ?_ ?_); exact rfl; intro K hK; go_simp; refine ⟨_, _, ⟨rfl, rfl⟩, hK _ _ ⟨_, HB.out, ?_⟩⟩; clear hK K; rintro e w1 ⟨rfl, rfl⟩; refine ⟨_, rfl, ?_⟩; simp only [put_lit, List.set_cons_zero, List.set_cons_succ]
    clear HB h1
    go_upto_region 2 with (fail)
    apply wp_region_lit
    (with_reducible refine wl_k ?_ ?_); exact rfl; intro K hK; go_simp; refine hK _ ?_; clear hK K
    obtain ⟨i2, hi2⟩ : ∃ i2, i2 = i + 2 := ⟨_, rfl⟩
    have hi1I : (i : Int) + 1 = (i1 : Int) := by omega
    have hi2I : (i : Int) + 2 = (i2 : Int) := by omega
    have hi1w : IntKind.i64.wrap (i1 : Int) = (i1 : Int) := IntWalk.i64_in _ (by omega)
    have hi2w : IntKind.i64.wrap (i2 : Int) = (i2 : Int) := IntWalk.i64_in _ (by omega)
    have HI2 : Hid (i2 = i1 + 1) := Lib.hid (by omega)
    have HD1 := Lib.hid hd1
    have HLE1 := Lib.hid hle1
    have HN1 : Hid ((l.drop i1).length < n) := Lib.hid (by
      have h2 := HN.out
      simp only [List.length_drop] at h2 ⊢
      omega)
    clear hi1 hi2 hd1 hle1
    go_upto_region 3 with (fail)
    apply wp_region_lit
    (with_reducible refine wl_k ?_ ?_); exact rfl; intro K hK; go_simp; refine hK _ ?_; clear hK K
    (with_reducible refine wl_k ?_ ?_); exact rfl; intro K hK; go_simp; refine hK _ ?_; clear hK K
    (with_reducible refine wl_k ?_ ?_); exact rfl; intro K hK; go_simp; refine hK _ ?_; clear hK K
    go_upto_region 4 with (fail)
    obtain ⟨b, hbb⟩ : ∃ b, b = (takeL [41] s1).isSome := ⟨_, rfl⟩
    have hB := begins_any l HLL.out i HI.out ⟨#[40, 41]⟩ (by decide) W
    rw [← HS.out, ht2, ← hbb] at hB
    have HB := Lib.hid hB
    have HBB := Lib.hid hbb
    clear hB hbb ht2
    apply wp_region_lit
    (with_reducible refine wl_k ?_ ?_); exact rfl; intro K hK; go_simp; refine hK _ ?_; clear hK K
    (with_reducible refine wl_k ?_ ?_); exact rfl; intro K hK; go_simp; refine hK _ ?_; clear hK K
    (with_reducible refine wl_ck ?_ ?_); exact rfl; intro K hK; go_simp; refine ⟨_, _, ⟨rfl, rfl⟩, hK _ _ ⟨_, HB.out, ?_⟩⟩; clear hK K; rintro e w1 ⟨rfl, rfl⟩; refine ⟨_, rfl, ?_⟩; simp only [put_lit, List.set_cons_zero, List.set_cons_succ]
    (with_reducible refine wl_k ?_ ?_); exact rfl; intro K hK; go_simp; refine hK _ ?_; clear hK K
    clear HB
    go_upto_if 22 with (fail)
    go_cut [6, 7] (fun v6 v7 wx => ∃ (q : Int) (A7 : Option Addr) (n7 c7 : Nat), v6 = .slice A7 n7 c7 ∧ v7 = .int .i64 q ∧ Hid (ArgsI l (itArgs (itOne n) s1) W.heap.size wx q (.slice A7 n7 c7)) ∧ W.heap.size ≤ wx.heap.size ∧ wx.heap[z]? = some (.cells (cell4 0 ⟨#[]⟩ 0 none 0 0) 24 (0, 0)) ∧ Below w.heap.size w wx)
    case first =>
      cases b with
      | true =>
        obtain ⟨s2, h5⟩ : ∃ s2, takeL [41] s1 = some s2 := by
          have := HBB.out
          cases h : takeL [41] s1 with
          | none => rw [h] at this; cases this
          | some s2 => exact ⟨s2, rfl⟩
        have HM : Hid (ArgsI l (itArgs (itOne n) s1) W.heap.size W (i2 : Int) (.slice none 0 0)) := Lib.hid (by
          unfold itArgs
          rw [h5]
          refine ⟨?_, OwnT.nil _ _⟩
          have h6 := take_len h5
          have h7 := congrArg List.length HD1.out
          have h8 := HI2.out
          have h9 := HLE1.out
          simp at h6 h7
          omega)
        clear h5
        go_wp2_with fail
        go_meet
        exact ⟨_, _, _, _, rfl, rfl, HM, Nat.le_refl _, hz, hb⟩
      | false =>
        have h5 : takeL [41] s1 = none := by
          have := HBB.out
          cases h : takeL [41] s1 with
          | none => rfl
          | some s2 => rw [h] at this; cases this
        have hT := types_any l HLL.out n HCC.out 41 i1 (s1.length + 1) HLE1.out HN1.out (by rw [HD1.out]; omega) _ rfl W
        rw [HD1.out, ← HS.out] at hT
        have HT := Lib.hid hT
        have HIA : Hid (itArgs (itOne n) s1 = itTypes (itOne n) 41 (s1.length + 1) [] s1) := Lib.hid (by unfold itArgs; rw [h5])
        clear h5 hT
        go_upto_region 5 with (fail)
        cases hr : itTypes (itOne n) 41 (s1.length + 1) [] s1 with
        | none =>
          have hT := HT.out
          rw [hr] at hT
          have HT2 := Lib.hid hT
          have HM : Hid (∀ wx v, ArgsI l (itArgs (itOne n) s1) W.heap.size wx (-1) v) := Lib.hid (by rw [HIA.out, hr]; exact fun _ _ => rfl)
          clear hT HT hr
          apply wp_region_lit
          (with_reducible refine wl_k ?_ ?_); exact rfl; intro K hK; go_simp; refine hK _ ?_; clear hK K
          (with_reducible refine wl_k ?_ ?_); exact rfl; intro K hK; go_simp; refine hK _ ?_; clear hK K
          (with_reducible refine wl_k ?_ ?_); exact rfl; intro K hK; go_simp; refine hK _ ?_; clear hK K
          (with_reducible refine wl_ck ?_ ?_); exact rfl; intro K hK; go_simp; refine ⟨_, _, ⟨rfl, rfl⟩, hK _ _ ⟨_, HT2.out, ?_⟩⟩; clear hK K; rintro e w9 ⟨rfl, hb9⟩; refine ⟨_, rfl, ?_⟩; simp only [put_lit, List.set_cons_zero, List.set_cons_succ]
          have hW9 := hb9.size
          replace hz := below_look hb9 hz; replace hb := hb.trans (hb9.mono hb.size); clear hb9
          (with_reducible refine wl_k ?_ ?_); exact rfl; intro K hK; go_simp; refine hK _ ?_; clear hK K
          (with_reducible refine wl_k ?_ ?_); exact rfl; intro K hK; go_simp; refine hK _ ?_; clear hK K
          (with_reducible refine wl_k ?_ ?_); exact rfl; intro K hK; go_simp; refine hK _ ?_; clear hK K
          (with_reducible refine wl_k ?_ ?_); exact rfl; intro K hK; go_simp; refine hK _ ?_; clear hK K
          (with_reducible refine wl_k ?_ ?_); exact rfl; intro K hK; go_simp; refine hK _ ?_; clear hK K
          clear HT2
          go_wp2_with fail
          go_meet
          exact ⟨_, _, _, _, rfl, rfl, Lib.hid (HM.out _ _), hW9, hz, hb⟩
        | some p =>
          obtain ⟨ts, s2⟩ := p
          have hT := HT.out
          rw [hr] at hT
          obtain ⟨q, hq⟩ : ∃ q, q = l.length - s2.length := ⟨_, rfl⟩
          have hT2 : Calls Tryd.prog 91 #[.string s, .int .i64 (i1 : Int), .int .u8 41] W fun e w' => ∃ A n c, e = .returned (.tuple #[.slice A n c, .int .i64 (q : Int)]) ∧ OwnT w' W.heap.size (.slice A n c) ts ∧ Below W.heap.size W w' := by rw [hq]; exact hT
          have HT2 := Lib.hid hT2
          have HQ := Lib.hid hq
          have HIA2 : Hid (itArgs (itOne n) s1 = some (ts, s2)) := Lib.hid (by rw [HIA.out, hr])
          clear hT hT2 HT hr hq HIA
          apply wp_region_lit
          (with_reducible refine wl_k ?_ ?_); exact rfl; intro K hK; go_simp; refine hK _ ?_; clear hK K
          (with_reducible refine wl_k ?_ ?_); exact rfl; intro K hK; go_simp; refine hK _ ?_; clear hK K
          (with_reducible refine wl_k ?_ ?_); exact rfl; intro K hK; go_simp; refine hK _ ?_; clear hK K
          (with_reducible refine wl_ck ?_ ?_); exact rfl; intro K hK; go_simp; refine ⟨_, _, ⟨rfl, rfl⟩, hK _ _ ⟨_, HT2.out, ?_⟩⟩; clear hK K; rintro e w9 ⟨A7, n7, c7, rfl, hown, hb9⟩; refine ⟨_, rfl, ?_⟩; simp only [put_lit, List.set_cons_zero, List.set_cons_succ]
          have HO := Lib.hid hown
          have hW9 := hb9.size
          replace hz := below_look hb9 hz; replace hb := hb.trans (hb9.mono hb.size); clear hb9
          clear hown
          (with_reducible refine wl_k ?_ ?_); exact rfl; intro K hK; go_simp; refine hK _ ?_; clear hK K
          (with_reducible refine wl_k ?_ ?_); exact rfl; intro K hK; go_simp; refine hK _ ?_; clear hK K
          (with_reducible refine wl_k ?_ ?_); exact rfl; intro K hK; go_simp; refine hK _ ?_; clear hK K
          (with_reducible refine wl_k ?_ ?_); exact rfl; intro K hK; go_simp; refine hK _ ?_; clear hK K
          (with_reducible refine wl_k ?_ ?_); exact rfl; intro K hK; go_simp; refine hK _ ?_; clear hK K
          clear HT2
          have HM : Hid (ArgsI l (itArgs (itOne n) s1) W.heap.size w9 (q : Int) (.slice A7 n7 c7)) := Lib.hid (by rw [HIA2.out]; exact ⟨by rw [HQ.out], HO.out⟩)
          clear HO HIA2
          go_wp2_with fail
          go_meet
          exact ⟨_, _, _, _, rfl, rfl, HM, hW9, hz, hb⟩
    case rest =>
    have hzW := heap_lt hz
    have hwW := hb.size
    clear hz hb
    obtain ⟨q, A7, n7, c7, rfl, rfl, HM, hWc, hz, hb⟩ := hcut
    go_upto_region 6 with (fail)
    cases ha : itArgs (itOne n) s1 with
    | none =>
      have hm := HM.out
      rw [ha] at hm
      have hq : q = -1 := hm
      subst hq
      have HRN : Hid (itOne (n + 1) (l.drop i) = none) := Lib.hid (by rw [HRA.out]; unfold itFn; rw [ha])
      clear hm ha HM
      apply wp_region_lit
      (with_reducible refine wl_k ?_ ?_); exact rfl; intro K hK; go_simp; refine hK _ ?_; clear hK K
      (with_reducible refine wl_k ?_ ?_); exact rfl; intro K hK; go_simp; refine hK _ ?_; clear hK K
      (with_reducible refine wl_k ?_ ?_); exact rfl; intro K hK; go_simp; refine hK _ ?_; clear hK K
      (first | ((with_reducible refine wl_skipU ?_ ?_ ?_); exact rfl; exact rfl) | ((with_reducible refine wl_skip ?_ ?_); exact rfl; simp only [put_lit, List.set_cons_zero, List.set_cons_succ]))
      (first | ((with_reducible refine wl_skipU ?_ ?_ ?_); exact rfl; exact rfl) | ((with_reducible refine wl_skip ?_ ?_); exact rfl; simp only [put_lit, List.set_cons_zero, List.set_cons_succ]))
      (first | ((with_reducible refine wl_skipU ?_ ?_ ?_); exact rfl; exact rfl) | ((with_reducible refine wl_skip ?_ ?_); exact rfl; simp only [put_lit, List.set_cons_zero, List.set_cons_succ]))
      (first | ((with_reducible refine wl_skipU ?_ ?_ ?_); exact rfl; exact rfl) | ((with_reducible refine wl_skip ?_ ?_); exact rfl; simp only [put_lit, List.set_cons_zero, List.set_cons_succ]))
      (with_reducible refine wl_k ?_ ?_); exact rfl; intro K hK; go_simp; refine hK _ ?_; clear hK K
      go_upto_region 7 with (fail)
      apply wp_region_lit
      refine wl_val rfl (ex_build 24 _ rfl (L := []) rfl built24z) ?_
      simp only [put_lit, List.set_cons_zero, List.set_cons_succ]
      (with_reducible refine wl_put rfl rfl hz ?_); rw [put_noneA]; intro W3 hbx hsz hkx hnx; replace hb := hbx _ _ (by omega) hb; clear hz; have hz := hnx; clear hnx
      (with_reducible refine wl_k ?_ ?_); exact rfl; intro K hK; go_simp; refine hK _ ?_; clear hK K
      clear hbx hkx hsz
      have HZ := Lib.hid hz
      have HB := Lib.hid hb
      clear hz hb
      go_wp2_with fail
      refine bodyPost_ret (res24t rfl _ _ z rfl rfl HZ.out) rfl ?_
      exact OPost.no HRN.out (zero_tree _ _) HB.out
    | some p =>
      obtain ⟨ts, s2⟩ := p
      have hm := HM.out
      rw [ha] at hm
      obtain ⟨hq, hown⟩ : q = ((l.length - s2.length : Nat) : Int) ∧ OwnT wc W.heap.size (.slice A7 n7 c7) ts := hm
      obtain ⟨j, hj⟩ : ∃ j, j = l.length - s2.length := ⟨_, rfl⟩
      have hcnt := itArgs_cnt (itOne_suf n) ha
      have hsuf := itArgs_suf (itOne_suf n) ha
      have hdj : l.drop j = s2 := by rw [hj]; exact suf_at (hsuf.trans (by rw [← HD1.out]; exact List.drop_suffix _ _))
      rw [← hj] at hq
      subst hq
      have hsl := hsuf.length_le
      have hs1l := congrArg List.length HD1.out
      simp only [List.length_drop] at hs1l
      have hjl : j ≤ l.length := by omega
      have hjs : j ≤ s.size := by rw [HSZ.out]; exact hjl
      have HO := Lib.hid hown
      have HTN : Hid (ts.length ≤ 1000000) := Lib.hid (by have := HLL.out; omega)
      have HJL := Lib.hid hjl
      have HDJ := Lib.hid hdj
      have hi1j : Hid (i1 ≤ j) := Lib.hid (by have := HLE1.out; omega)
      have hq0 : ¬ (j : Int) < 0 := by omega
      clear hown hcnt hsuf hsl hs1l hjl hdj hj HM
      cases h6 : takeL [32, 45, 62, 32] (l.drop j) with
      | none =>
        have HRN : Hid (itOne (n + 1) (l.drop i) = none) := Lib.hid (by rw [HRA.out]; unfold itFn; rw [ha]; simp only [← HDJ.out, h6])
        have hB := begins_no l HLL.out j HJL.out ⟨#[32, 45, 62, 32]⟩ (by decide) h6 wc
        rw [← HS.out] at hB
        have HB := Lib.hid hB
        clear hB
        clear h6 ha
        apply wp_region_lit
        (with_reducible refine wl_k ?_ ?_); exact rfl; intro K hK; go_simp; refine hK _ ?_; clear hK K
        (with_reducible refine wl_k ?_ ?_); exact rfl; intro K hK; go_simp; refine hK _ ?_; clear hK K
        (with_reducible refine wl_k ?_ ?_); exact rfl; intro K hK; go_simp; refine hK _ ?_; clear hK K
        (with_reducible refine wl_k ?_ ?_); exact rfl; intro K hK; go_simp; refine hK _ ?_; clear hK K
        (with_reducible refine wl_k ?_ ?_); exact rfl; intro K hK; go_simp; refine hK _ ?_; clear hK K
        (with_reducible refine wl_ck ?_ ?_); exact rfl; intro K hK; go_simp; refine ⟨_, _, ⟨rfl, rfl⟩, hK _ _ ⟨_, HB.out, ?_⟩⟩; clear hK K; rintro e w1 ⟨rfl, rfl⟩; refine ⟨_, rfl, ?_⟩; simp only [put_lit, List.set_cons_zero, List.set_cons_succ]
        (with_reducible refine wl_k ?_ ?_); exact rfl; intro K hK; go_simp; refine hK _ ?_; clear hK K
        (with_reducible refine wl_k ?_ ?_); exact rfl; intro K hK; go_simp; refine hK _ ?_; clear hK K
        clear HB HO
        go_upto_region 7 with (fail)
        apply wp_region_lit
        refine wl_val rfl (ex_build 24 _ rfl (L := []) rfl built24z) ?_
        simp only [put_lit, List.set_cons_zero, List.set_cons_succ]
        (with_reducible refine wl_put rfl rfl hz ?_); rw [put_noneA]; intro W3 hbx hsz hkx hnx; replace hb := hbx _ _ (by omega) hb; clear hz; have hz := hnx; clear hnx
        (with_reducible refine wl_k ?_ ?_); exact rfl; intro K hK; go_simp; refine hK _ ?_; clear hK K
        clear hbx hkx hsz
        have HZ := Lib.hid hz
        have HB := Lib.hid hb
        clear hz hb
        go_wp2_with fail
        refine bodyPost_ret (res24t rfl _ _ z rfl rfl HZ.out) rfl ?_
        exact OPost.no HRN.out (zero_tree _ _) HB.out
      | some s3 =>
        obtain ⟨j4, hj4⟩ : ∃ j4, j4 = j + 4 := ⟨_, rfl⟩
        have hd4 : l.drop j4 = s3 := by rw [hj4]; exact take_drop h6
        have hle4 : j4 ≤ l.length := by rw [hj4]; exact take_le HJL.out h6
        have hB := begins_yes l HLL.out j HJL.out ⟨#[32, 45, 62, 32]⟩ s3 h6 wc
        rw [← HS.out] at hB
        have HB := Lib.hid hB
        clear hB
        have hj4I : (j : Int) + 4 = (j4 : Int) := by omega
        have hj4w : IntKind.i64.wrap (j4 : Int) = (j4 : Int) := IntWalk.i64_in _ (by have := HLL.out; omega)
        have hn4 : (l.drop j4).length < n := by
          have h1 := HN1.out
          have h2 := hi1j.out
          simp only [List.length_drop] at h1 ⊢
          omega
        have hT := HCC.out j4 hle4 hn4 wc
        rw [hd4, ← HS.out] at hT
        have HT := Lib.hid hT
        have HRB : Hid (itOne (n + 1) (l.drop i) = match itOne n s3 with | none => none | some (t, s4) => some (.node 10 ⟨#[]⟩ 0 (ts ++ [t]), s4)) := Lib.hid (by rw [HRA.out]; unfold itFn; rw [ha]; simp only [← HDJ.out, h6]; cases itOne n s3 <;> rfl)
        clear hT hd4 hle4 hj4 hn4 h6 ha
        apply wp_region_lit
        (with_reducible refine wl_k ?_ ?_); exact rfl; intro K hK; go_simp; refine hK _ ?_; clear hK K
        (with_reducible refine wl_k ?_ ?_); exact rfl; intro K hK; go_simp; refine hK _ ?_; clear hK K
        (with_reducible refine wl_k ?_ ?_); exact rfl; intro K hK; go_simp; refine hK _ ?_; clear hK K
        (with_reducible refine wl_k ?_ ?_); exact rfl; intro K hK; go_simp; refine hK _ ?_; clear hK K
        (with_reducible refine wl_k ?_ ?_); exact rfl; intro K hK; go_simp; refine hK _ ?_; clear hK K
        (with_reducible refine wl_ck ?_ ?_); exact rfl; intro K hK; go_simp; refine ⟨_, _, ⟨rfl, rfl⟩, hK _ _ ⟨_, HB.out, ?_⟩⟩; clear hK K; rintro e w1 ⟨rfl, rfl⟩; refine ⟨_, rfl, ?_⟩; simp only [put_lit, List.set_cons_zero, List.set_cons_succ]
        (with_reducible refine wl_k ?_ ?_); exact rfl; intro K hK; go_simp; refine hK _ ?_; clear hK K
        (with_reducible refine wl_k ?_ ?_); exact rfl; intro K hK; go_simp; refine hK _ ?_; clear hK K
        clear HB
        go_upto_region 8 with (fail)
        have hwz := hb.size
        cases hr : itOne n s3 with
        | none =>
          have hT := HT.out
          rw [hr] at hT
          have HT2 := Lib.hid hT
          have HRN : Hid (itOne (n + 1) (l.drop i) = none) := Lib.hid (by rw [HRB.out, hr])
          clear hT HT hr HRB
          apply wp_region_lit
          (with_reducible refine wl_k ?_ ?_); exact rfl; intro K hK; go_simp; refine hK _ ?_; clear hK K
          (with_reducible refine wl_k ?_ ?_); exact rfl; intro K hK; go_simp; refine hK _ ?_; clear hK K
          (with_reducible refine wl_k ?_ ?_); exact rfl; intro K hK; go_simp; refine hK _ ?_; clear hK K
          (with_reducible refine wl_ck ?_ ?_); exact rfl; intro K hK; go_simp; refine ⟨_, _, ⟨rfl, rfl⟩, hK _ _ ⟨_, HT2.out, ?_⟩⟩; clear hK K; rintro e w9 ⟨t9, row9, rfl, hta, hb9⟩; refine ⟨_, rfl, ?_⟩; simp only [put_lit, List.set_cons_zero, List.set_cons_succ]
          obtain ⟨k9, s9, n9, A9, l9, c9, ts9, hu9, rfl, -⟩ := hta.parts
          have HA := Lib.hid (HO.out.apart hWc hta)
          replace HO := Lib.hid (HO.out.old hb9)
          have hc9 := hb9.size
          have hy := Below.refl w9.heap.size w9
          replace hz := below_look hb9 hz; replace hb := hb.trans (hb9.mono hb.size); clear hb9
          have h9z := hb.size
          clear hta hu9 HT2
          (with_reducible refine wl_k ?_ ?_); exact rfl; intro K hK; go_simp; refine hK _ ?_; clear hK K
          (with_reducible refine wl_k ?_ ?_); exact rfl; intro K hK; go_simp; refine hK _ ?_; clear hK K
          (with_reducible refine wl_k ?_ ?_); exact rfl; intro K hK; go_simp; refine hK _ ?_; clear hK K
          have lthzq8 := heap_lt hz; (with_reducible refine wl_all ?_); intro X1 q8 hbn hlq8 hq8; replace hz := below_look hbn hz; replace hy := hy.trans (hbn.mono hy.size); replace hb := hb.trans (hbn.mono hb.size); clear hbn; simp only [put_lit, List.set_cons_zero, List.set_cons_succ]
          (with_reducible refine wl_put rfl rfl hq8 ?_); rw [put_noneA]; intro X2 hbx hsz hkx hnx; replace hz := (hkx _ (by omega)).trans hz; replace hy := hbx _ _ (by omega) hy; replace hb := hbx _ _ (by omega) hb; clear hq8; have hq8 := hnx; clear hnx
          clear hbx hkx hsz
          (with_reducible refine wl_k ?_ ?_); exact rfl; intro K hK; go_simp; refine hK _ ?_; clear hK K
          go_upto_region 9 with (fail)
          apply wp_region_lit
          (with_reducible refine wl_k ?_ ?_); exact rfl; intro K hK; go_simp; refine hK _ ?_; clear hK K
          (first | ((with_reducible apply wl_oneG); exact rfl; exact rfl; first | exact f0 (by with_reducible assumption) | exact f1 (by with_reducible assumption) | exact f2 (by with_reducible assumption) | exact f3 (by with_reducible assumption) | with_reducible assumption | exact g22 (by with_reducible assumption) | exact g25 (by with_reducible assumption)) | ((with_reducible apply wl_rowG); exact rfl; exact rfl; first | with_reducible assumption | exact RowK.now (by with_reducible assumption) | exact f4 (by with_reducible assumption)))
          have lthzq3 := heap_lt hz; (with_reducible refine wl_bs rfl ?_); intro X5 q3 hbn hlq3 hq3; replace hz := below_look hbn hz; replace hy := hy.trans (hbn.mono hy.size); replace hb := hb.trans (hbn.mono hb.size); clear hbn; simp only [put_lit, List.set_cons_zero, List.set_cons_succ]
          refine wl_push rfl _ _ rfl rfl rfl (HO.out.old hy) (HA.out.old hy) hq3 HTN.out (by have := hy.size; omega) ?_
          intro A4 l4 c4 w4 hown hk4 hbl
          have HLT := Lib.hid ((HO.out.old hy).lt)
          have hys := hy.size
          have hzs := heap_lt hz
          replace hz := (hk4 z hzs (fun e => by have := (HLT.out z e).1; omega)).trans hz
          replace hb := hbl _ _ (fun b e => by have := (HLT.out b e).1; omega) hb.size hb
          obtain ⟨A10, l10, c10, he, h10⟩ := hown.at
          cases he
          have HTA := Lib.hid h10
          clear hown hk4 hbl HLT hq3 h10
          refine wl_val rfl (ex_build 24 _ rfl (L := [(0, .int .i64 10), (3, .slice A4 l4 c4)]) rfl (built24q A4 l4 c4)) ?_
          simp only [put_lit, List.set_cons_zero, List.set_cons_succ]
          (with_reducible refine wl_k ?_ ?_); exact rfl; intro K hK; go_simp; refine hK _ ?_; clear hK K
          (with_reducible refine wl_put rfl rfl hz ?_); rw [put_noneA]; intro W3 hbx hsz hkx hnx; replace hb := hbx _ _ (by omega) hb; clear hz; have hz := hnx; clear hnx
          (with_reducible refine wl_k ?_ ?_); exact rfl; intro K hK; go_simp; refine hK _ ?_; clear hK K
          have HTB : Hid (TysAt W3 (fun b => W.heap.size ≤ b) (ts ++ [t9]) A4 l4 c4) := Lib.hid (HTA.out.mono (fun b h => h) (fun b (hb : W.heap.size ≤ b) => hkx b (by omega)))
          have HTY : Hid (TyAt W3 (fun b => w.heap.size ≤ b) (.node 10 ⟨#[]⟩ 0 (ts ++ [t9])) (cell4 10 ⟨#[]⟩ 0 A4 l4 c4)) := Lib.hid (TyAt.of (by rfl) (by rfl) (Nat.zero_le _) (HTB.out.mono (fun b (h : W.heap.size ≤ b) => by omega) fun _ _ => rfl))
          clear hbx hkx hsz HTA HTB HO HA hy hq8
          have HZ := Lib.hid hz
          have HB := Lib.hid hb
          clear hz hb
          go_wp2_with fail
          refine bodyPost_ret (res24t rfl _ _ z rfl rfl HZ.out) rfl ?_
          exact OPost.no HRN.out HTY.out HB.out
        | some p =>
          obtain ⟨t9, s4⟩ := p
          have hT := HT.out
          rw [hr] at hT
          obtain ⟨e4, he4⟩ : ∃ e4, e4 = l.length - s4.length := ⟨_, rfl⟩
          have hT2 : Calls Tryd.prog 64 #[.string s, .int .i64 (j4 : Int)] wc fun e w' => ∃ row, e = .returned (.tuple #[.agg row, .int .i64 (e4 : Int)]) ∧ TyAt w' (fun b => wc.heap.size ≤ b) t9 row ∧ Below wc.heap.size wc w' := by rw [he4]; exact hT
          have HT2 := Lib.hid hT2
          have HE4 : Hid (l.length - s4.length = e4) := Lib.hid he4.symm
          have HRC : Hid (itOne (n + 1) (l.drop i) = some (.node 10 ⟨#[]⟩ 0 (ts ++ [t9]), s4)) := Lib.hid (by rw [HRB.out, hr])
          clear hT hT2 HT hr HRB he4
          apply wp_region_lit
          (with_reducible refine wl_k ?_ ?_); exact rfl; intro K hK; go_simp; refine hK _ ?_; clear hK K
          (with_reducible refine wl_k ?_ ?_); exact rfl; intro K hK; go_simp; refine hK _ ?_; clear hK K
          (with_reducible refine wl_k ?_ ?_); exact rfl; intro K hK; go_simp; refine hK _ ?_; clear hK K
          (with_reducible refine wl_ck ?_ ?_); exact rfl; intro K hK; go_simp; refine ⟨_, _, ⟨rfl, rfl⟩, hK _ _ ⟨_, HT2.out, ?_⟩⟩; clear hK K; rintro e w9 ⟨row9, rfl, hta, hb9⟩; refine ⟨_, rfl, ?_⟩; simp only [put_lit, List.set_cons_zero, List.set_cons_succ]
          obtain ⟨k9, s9, n9, A9, l9, c9, ts9, hu9, rfl, -⟩ := hta.parts
          have HA := Lib.hid (HO.out.apart hWc hta)
          replace HO := Lib.hid (HO.out.old hb9)
          have hc9 := hb9.size
          have hy := Below.refl w9.heap.size w9
          replace hz := below_look hb9 hz; replace hb := hb.trans (hb9.mono hb.size); clear hb9
          have h9z := hb.size
          clear hta hu9 HT2
          (with_reducible refine wl_k ?_ ?_); exact rfl; intro K hK; go_simp; refine hK _ ?_; clear hK K
          (with_reducible refine wl_k ?_ ?_); exact rfl; intro K hK; go_simp; refine hK _ ?_; clear hK K
          (with_reducible refine wl_k ?_ ?_); exact rfl; intro K hK; go_simp; refine hK _ ?_; clear hK K
          have lthzq8 := heap_lt hz; (with_reducible refine wl_all ?_); intro X1 q8 hbn hlq8 hq8; replace hz := below_look hbn hz; replace hy := hy.trans (hbn.mono hy.size); replace hb := hb.trans (hbn.mono hb.size); clear hbn; simp only [put_lit, List.set_cons_zero, List.set_cons_succ]
          (with_reducible refine wl_put rfl rfl hq8 ?_); rw [put_noneA]; intro X2 hbx hsz hkx hnx; replace hz := (hkx _ (by omega)).trans hz; replace hy := hbx _ _ (by omega) hy; replace hb := hbx _ _ (by omega) hb; clear hq8; have hq8 := hnx; clear hnx
          clear hbx hkx hsz
          (with_reducible refine wl_k ?_ ?_); exact rfl; intro K hK; go_simp; refine hK _ ?_; clear hK K
          go_upto_region 9 with (fail)
          apply wp_region_lit
          (with_reducible refine wl_k ?_ ?_); exact rfl; intro K hK; go_simp; refine hK _ ?_; clear hK K
          (first | ((with_reducible apply wl_oneG); exact rfl; exact rfl; first | exact f0 (by with_reducible assumption) | exact f1 (by with_reducible assumption) | exact f2 (by with_reducible assumption) | exact f3 (by with_reducible assumption) | with_reducible assumption | exact g22 (by with_reducible assumption) | exact g25 (by with_reducible assumption)) | ((with_reducible apply wl_rowG); exact rfl; exact rfl; first | with_reducible assumption | exact RowK.now (by with_reducible assumption) | exact f4 (by with_reducible assumption)))
          have lthzq3 := heap_lt hz; (with_reducible refine wl_bs rfl ?_); intro X5 q3 hbn hlq3 hq3; replace hz := below_look hbn hz; replace hy := hy.trans (hbn.mono hy.size); replace hb := hb.trans (hbn.mono hb.size); clear hbn; simp only [put_lit, List.set_cons_zero, List.set_cons_succ]
          refine wl_push rfl _ _ rfl rfl rfl (HO.out.old hy) (HA.out.old hy) hq3 HTN.out (by have := hy.size; omega) ?_
          intro A4 l4 c4 w4 hown hk4 hbl
          have HLT := Lib.hid ((HO.out.old hy).lt)
          have hys := hy.size
          have hzs := heap_lt hz
          replace hz := (hk4 z hzs (fun e => by have := (HLT.out z e).1; omega)).trans hz
          replace hb := hbl _ _ (fun b e => by have := (HLT.out b e).1; omega) hb.size hb
          obtain ⟨A10, l10, c10, he, h10⟩ := hown.at
          cases he
          have HTA := Lib.hid h10
          clear hown hk4 hbl HLT hq3 h10
          refine wl_val rfl (ex_build 24 _ rfl (L := [(0, .int .i64 10), (3, .slice A4 l4 c4)]) rfl (built24q A4 l4 c4)) ?_
          simp only [put_lit, List.set_cons_zero, List.set_cons_succ]
          (with_reducible refine wl_k ?_ ?_); exact rfl; intro K hK; go_simp; refine hK _ ?_; clear hK K
          (with_reducible refine wl_put rfl rfl hz ?_); rw [put_noneA]; intro W3 hbx hsz hkx hnx; replace hb := hbx _ _ (by omega) hb; clear hz; have hz := hnx; clear hnx
          (with_reducible refine wl_k ?_ ?_); exact rfl; intro K hK; go_simp; refine hK _ ?_; clear hK K
          have HTB : Hid (TysAt W3 (fun b => W.heap.size ≤ b) (ts ++ [t9]) A4 l4 c4) := Lib.hid (HTA.out.mono (fun b h => h) (fun b (hb : W.heap.size ≤ b) => hkx b (by omega)))
          have HTY : Hid (TyAt W3 (fun b => w.heap.size ≤ b) (.node 10 ⟨#[]⟩ 0 (ts ++ [t9])) (cell4 10 ⟨#[]⟩ 0 A4 l4 c4)) := Lib.hid (TyAt.of (by rfl) (by rfl) (Nat.zero_le _) (HTB.out.mono (fun b (h : W.heap.size ≤ b) => by omega) fun _ _ => rfl))
          clear hbx hkx hsz HTA HTB HO HA hy hq8
          have HZ := Lib.hid hz
          have HB := Lib.hid hb
          clear hz hb
          go_wp2_with fail
          refine bodyPost_ret (res24t rfl _ _ z rfl rfl HZ.out) rfl ?_
          exact OPost.yes HRC.out HE4.out HTY.out HB.out
  | none =>
  have hB := begins_no l HLL.out i HI.out ⟨#[40]⟩ (by decide) h1 W
  rw [← HS.out] at hB
  have HB := Lib.hid hB
  clear hB
  apply wp_region_lit
  (with_reducible refine wl_k ?_ ?_); exact rfl; intro K hK; go_simp; refine hK _ ?_; clear hK K
  (with_reducible refine wl_k ?_ ?_); exact rfl; intro K hK; go_simp; refine hK _ ?_; clear hK K
  (with_reducible refine wl_ck ?_ ?_); exact rfl; intro K hK; go_simp; refine ⟨_, _, ⟨rfl, rfl⟩, hK _ _ ⟨_, HB.out, ?_⟩⟩; clear hK K; rintro e w1 ⟨rfl, rfl⟩; refine ⟨_, rfl, ?_⟩; simp only [put_lit, List.set_cons_zero, List.set_cons_succ]
  clear HB
  go_upto_region 10 with (fail)
  cases h2 : takeL [97, 110, 121, 32] ((l.drop i)) with
  | some s1 =>
    obtain ⟨i1, hi1⟩ : ∃ i1, i1 = i + 4 := ⟨_, rfl⟩
    have hd1 : l.drop i1 = s1 := by rw [hi1]; exact take_drop h2
    have hle1 : i1 ≤ l.length := by rw [hi1]; exact take_le HI.out h2
    have hB := begins_yes l HLL.out i HI.out ⟨#[97, 110, 121, 32]⟩ s1 h2 W
    rw [← HS.out] at hB
    have HB := Lib.hid hB
    clear hB
    apply wp_region_lit
    (with_reducible refine wl_k ?_ ?_); exact rfl; intro K hK; go_simp; refine hK _ ?_; clear hK K
    (with_reducible refine wl_k ?_ ?_); exact rfl; intro K hK; go_simp; refine hK _ ?_; clear hK K
    (with_reducible refine wl_ck ?_ ?_); exact rfl; intro K hK; go_simp; refine ⟨_, _, ⟨rfl, rfl⟩, hK _ _ ⟨_, HB.out, ?_⟩⟩; clear hK K; rintro e w1 ⟨rfl, rfl⟩; refine ⟨_, rfl, ?_⟩; simp only [put_lit, List.set_cons_zero, List.set_cons_succ]
    clear HB
    obtain ⟨j, hj⟩ : ∃ j, j = nameEnd l i1 := ⟨_, rfl⟩
    have hnl := nameEnd_le hle1
    have hN := name_any l HLL.out i1 hle1 W
    rw [← HS.out, ← hj] at hN
    rw [← hj] at hnl
    have HNM := Lib.hid hN
    have hij : i1 ≤ j := hnl.1
    have hjs : j ≤ s.size := by rw [HSZ.out]; exact hnl.2
    have hi1s : i1 ≤ s.size := by omega
    have hi1I : (i : Int) + 4 = (i1 : Int) := by omega
    have hi1w : IntKind.i64.wrap (i1 : Int) = (i1 : Int) := IntWalk.i64_in _ (by omega)
    have hijI : (i1 : Int) ≤ (j : Int) := by omega
    have hjI : (j : Int) ≤ (s.size : Int) := by omega
    obtain ⟨x, hx⟩ : ∃ x, x = s.extract i1 j := ⟨_, rfl⟩
    have HX := Lib.hid hx
    have hxe : x = strOf (s1.takeWhile isW) := by rw [hx, HS.out, hj, name_ext hle1, hd1]
    have HXZ : Hid (x.size ≤ maxLen) := Lib.hid (by rw [hxe, ← hd1]; exact tw_small HLL.out)
    have HRA : Hid (itOne (n + 1) (l.drop i) = some (.node 9 x 0 [], s1.dropWhile isW)) := Lib.hid (by simp only [itOne, h1, h2, hxe])
    have HPS : Hid (l.length - (s1.dropWhile isW).length = j) := Lib.hid (by rw [hj, ← hd1]; rfl)
    clear h1 h2 hd1 hle1 hj hnl hN hx hxe hi1
    go_upto_region 11 with (fail)
    apply wp_region_lit
    (with_reducible refine wl_k ?_ ?_); exact rfl; intro K hK; go_simp; refine hK _ ?_; clear hK K
    (with_reducible refine wl_k ?_ ?_); exact rfl; intro K hK; go_simp; refine hK _ ?_; clear hK K
    (with_reducible refine wl_k ?_ ?_); exact rfl; intro K hK; go_simp; refine hK _ ?_; clear hK K
    (with_reducible refine wl_ck ?_ ?_); exact rfl; intro K hK; go_simp; refine ⟨_, _, ⟨rfl, rfl⟩, hK _ _ ⟨_, HNM.out, ?_⟩⟩; clear hK K; rintro e w2 ⟨rfl, rfl⟩; refine ⟨_, rfl, ?_⟩; simp only [put_lit, List.set_cons_zero, List.set_cons_succ]
    (with_reducible refine wl_k ?_ ?_); exact rfl; intro K hK; go_simp; refine hK _ ?_; clear hK K
    clear HNM
    go_upto_region 12 with (fail)
    apply wp_region_lit
    (with_reducible refine wl_k ?_ ?_); exact rfl; intro K hK; go_simp; refine hK _ ?_; clear hK K
    (with_reducible refine wl_k ?_ ?_); exact rfl; intro K hK; go_simp; refine hK _ ?_; clear hK K
    (with_reducible refine wl_k ?_ ?_); exact rfl; intro K hK; go_simp; refine hK _ ?_; clear hK K
    (with_reducible refine wl_k ?_ ?_); exact rfl; intro K hK; go_simp; refine hK _ ?_; clear hK K
    (with_reducible refine wl_k ?_ ?_); exact rfl; intro K hK; go_simp; refine hK _ ?_; clear hK K
    rw [← HX.out]
    refine wl_val rfl (ex_build 24 _ rfl (L := [(0, .int .i64 9), (1, .string x)]) rfl (built24x 9 x)) ?_
    simp only [put_lit, List.set_cons_zero, List.set_cons_succ]
    (with_reducible refine wl_k ?_ ?_); exact rfl; intro K hK; go_simp; refine hK _ ?_; clear hK K
    (with_reducible refine wl_put rfl rfl hz ?_); rw [put_noneA]; intro W3 hbx hsz hkx hnx; replace hb := hbx _ _ (by omega) hb; clear hz; have hz := hnx; clear hnx
    (with_reducible refine wl_k ?_ ?_); exact rfl; intro K hK; go_simp; refine hK _ ?_; clear hK K
    clear hbx hkx hsz
    have HZ := Lib.hid hz
    have HB := Lib.hid hb
    clear hz hb
    go_wp2_with fail
    refine bodyPost_ret (res24t rfl _ _ z rfl rfl HZ.out) rfl ?_
    exact OPost.yes HRA.out HPS.out (TyAt.of (by rfl) (by rfl) HXZ.out (TysAt.nil _ _)) HB.out
  | none =>
  have hB := begins_no l HLL.out i HI.out ⟨#[97, 110, 121, 32]⟩ (by decide) h2 W
  rw [← HS.out] at hB
  have HB := Lib.hid hB
  clear hB
  apply wp_region_lit
  (with_reducible refine wl_k ?_ ?_); exact rfl; intro K hK; go_simp; refine hK _ ?_; clear hK K
  (with_reducible refine wl_k ?_ ?_); exact rfl; intro K hK; go_simp; refine hK _ ?_; clear hK K
  (with_reducible refine wl_ck ?_ ?_); exact rfl; intro K hK; go_simp; refine ⟨_, _, ⟨rfl, rfl⟩, hK _ _ ⟨_, HB.out, ?_⟩⟩; clear hK K; rintro e w1 ⟨rfl, rfl⟩; refine ⟨_, rfl, ?_⟩; simp only [put_lit, List.set_cons_zero, List.set_cons_succ]
  clear HB
  have hT := atom_any l HLL.out n HCC.out i HI.out (by have := HN.out; omega) W
  rw [← HS.out] at hT
  have HRA : Hid (itOne (n + 1) (l.drop i) = match itAtom (itOne n) (l.drop i) with | none => none | some (t, s1) => some (dots (s1.length + 1) t s1)) := Lib.hid (by simp only [itOne, h1, h2]; cases itAtom (itOne n) (l.drop i) <;> rfl)
  have HAP : Hid (∀ e w', OPost l (itAtom (itOne n) (l.drop i)) W e w' → ∃ t row, ∃ j : Int, e = .returned (.tuple #[.agg row, .int .i64 j]) ∧ TyAt w' (fun b => W.heap.size ≤ b) t row ∧ Below W.heap.size W w' ∧ ((j = -1 ∧ itOne (n + 1) (l.drop i) = none) ∨ ∃ q m' : Nat, j = (q : Int) ∧ q ≤ l.length ∧ (l.drop q).length < m' ∧ itOne (n + 1) (l.drop i) = some (dots m' t (l.drop q)))) := Lib.hid fun e w' h => by
    have hra := HRA.out
    cases hr : itAtom (itOne n) (l.drop i) with
    | none =>
      rw [hr] at h hra
      obtain ⟨t, row, g1, g2, g3⟩ := h
      exact ⟨t, row, _, g1, g2, g3, Or.inl ⟨rfl, hra⟩⟩
    | some p =>
      obtain ⟨t, s1⟩ := p
      rw [hr] at h hra
      obtain ⟨row, g1, g2, g3⟩ := h
      have hd : l.drop (l.length - s1.length) = s1 := suf_at ((itAtom_suf (itOne_suf n) hr).trans (List.drop_suffix _ _))
      exact ⟨t, row, _, g1, g2, g3, Or.inr ⟨_, s1.length + 1, rfl, by omega, by rw [hd]; omega, by rw [hd]; exact hra⟩⟩
  have HT := Lib.hid (hT.mono HAP.out)
  clear h1 h2 hT HAP
  have hzW := heap_lt hz
  have hwW := hb.size
  go_upto_region 13 with (fail)
  apply wp_region_lit
  (with_reducible refine wl_k ?_ ?_); exact rfl; intro K hK; go_simp; refine hK _ ?_; clear hK K
  (with_reducible refine wl_k ?_ ?_); exact rfl; intro K hK; go_simp; refine hK _ ?_; clear hK K
  (with_reducible refine wl_ck ?_ ?_); exact rfl; intro K hK; go_simp; refine ⟨_, _, ⟨rfl, rfl⟩, hK _ _ ⟨_, HT.out, ?_⟩⟩; clear hK K; rintro e w9 ⟨t9, row9, j9, rfl, hta, hb9, hj9⟩; refine ⟨_, rfl, ?_⟩; simp only [put_lit, List.set_cons_zero, List.set_cons_succ]
  obtain ⟨k9, s9, n9, A9, l9, c9, ts9, hu9, rfl, -⟩ := hta.parts
  have HJ9 := Lib.hid hj9
  have HTA := Lib.hid hta
  have hy := Below.refl w9.heap.size w9
  have hc9 := hb9.size
  replace hz := below_look hb9 hz; replace hb := hb.trans (hb9.mono hb.size); clear hb9
  clear hta hu9 HT hj9
  (with_reducible refine wl_k ?_ ?_); exact rfl; intro K hK; go_simp; refine hK _ ?_; clear hK K
  (with_reducible refine wl_k ?_ ?_); exact rfl; intro K hK; go_simp; refine hK _ ?_; clear hK K
  (with_reducible refine wl_k ?_ ?_); exact rfl; intro K hK; go_simp; refine hK _ ?_; clear hK K
  have lthzz11 := heap_lt hz; (with_reducible refine wl_all ?_); intro X1 z11 hbn hlz11 hz11; replace hz := below_look hbn hz; replace hy := hy.trans (hbn.mono hy.size); replace hb := hb.trans (hbn.mono hb.size); clear hbn; simp only [put_lit, List.set_cons_zero, List.set_cons_succ]
  (with_reducible refine wl_put rfl rfl hz11 ?_); rw [put_noneA]; intro X2 hbx hsz hkx hnx; replace hz := (hkx _ (by omega)).trans hz; replace hy := hbx _ _ (by omega) hy; replace hb := hbx _ _ (by omega) hb; clear hz11; have hz11 := hnx; clear hnx
  clear hbx hkx hsz
  (with_reducible refine wl_k ?_ ?_); exact rfl; intro K hK; go_simp; refine hK _ ?_; clear hK K
  obtain ⟨R, hR⟩ : ∃ R, itOne (n + 1) (l.drop i) = R := ⟨_, rfl⟩
  have HRX := Lib.hid hR
  rw [hR] at HJ9
  have HTY : Hid (TyAt X2 (fun b => w.heap.size ≤ b ∧ b ≠ z ∧ b ≠ z11) t9 (cell4 k9 s9 n9 A9 l9 c9)) := Lib.hid ((HTA.out.low.weak fun b h => by have h1 := h.1; have h2 := h.2; refine ⟨?_, ?_, ?_⟩ <;> omega).old hy)
  have hzz : z < z11 := by omega
  have hz11w : w.heap.size ≤ z11 := by omega
  clear hy HTA HRA HN hR HI
  go_wp2_with fail
  go_loopw [12] (fun v wr => DotJ l R w z z11 v wr) (fun v _ => s.size - (intOf v).toNat)
  case atStart => exact ⟨t9, j9, k9, s9, n9, A9, l9, c9, rfl, hz, hz11, HTY, hb, HJ9⟩
  case round =>
    clear hz hz11 HTY hb HJ9
    obtain ⟨u, j, k, sx, nn, A, lA, cA, rfl, hz, hz11, HTY, hb, HD⟩ := hrel
    go_upto_region 14 with (fail)
    rcases HD.out with ⟨hj, hR⟩ | ⟨q, m', hj, hq, hm, hR⟩
    · subst hj
      have HRN := Lib.hid hR
      clear hR HD
      apply wp_region_lit
      (with_reducible refine wl_k ?_ ?_); exact rfl; intro K hK; go_simp; refine hK _ ?_; clear hK K
      (with_reducible refine wl_k ?_ ?_); exact rfl; intro K hK; go_simp; refine hK _ ?_; clear hK K
      (with_reducible refine wl_k ?_ ?_); exact rfl; intro K hK; go_simp; refine hK _ ?_; clear hK K
      (first | ((with_reducible refine wl_skipU ?_ ?_ ?_); exact rfl; exact rfl) | ((with_reducible refine wl_skip ?_ ?_); exact rfl; simp only [put_lit, List.set_cons_zero, List.set_cons_succ]))
      (first | ((with_reducible refine wl_skipU ?_ ?_ ?_); exact rfl; exact rfl) | ((with_reducible refine wl_skip ?_ ?_); exact rfl; simp only [put_lit, List.set_cons_zero, List.set_cons_succ]))
      (first | ((with_reducible refine wl_skipU ?_ ?_ ?_); exact rfl; exact rfl) | ((with_reducible refine wl_skip ?_ ?_); exact rfl; simp only [put_lit, List.set_cons_zero, List.set_cons_succ]))
      (with_reducible refine wl_k ?_ ?_); exact rfl; intro K hK; go_simp; refine hK _ ?_; clear hK K
      go_upto_region 18 with (fail)
      apply wp_region_lit
      (first | ((with_reducible apply wl_oneG); exact rfl; exact rfl; first | exact f0 (by with_reducible assumption) | exact f1 (by with_reducible assumption) | exact f2 (by with_reducible assumption) | exact f3 (by with_reducible assumption) | with_reducible assumption | exact g22 (by with_reducible assumption) | exact g25 (by with_reducible assumption)) | ((with_reducible apply wl_rowG); exact rfl; exact rfl; first | with_reducible assumption | exact RowK.now (by with_reducible assumption) | exact f4 (by with_reducible assumption)))
      (with_reducible refine wl_k ?_ ?_); exact rfl; intro K hK; go_simp; refine hK _ ?_; clear hK K
      (with_reducible refine wl_put rfl rfl hz ?_); rw [put_noneA]; intro W36 hbx hsz hkx hnx; replace hz11 := (hkx _ (by omega)).trans hz11; replace hb := hbx _ _ (by omega) hb; clear hz; have hz := hnx; clear hnx
      (with_reducible refine wl_k ?_ ?_); exact rfl; intro K hK; go_simp; refine hK _ ?_; clear hK K
      replace HTY := Lib.hid ((HTY.out.mono (D' := fun b => w.heap.size ≤ b) (fun _ h => h.1) (fun b hb => hkx b hb.2.1)))
      clear hbx hkx hsz hz11
      have HZ := Lib.hid hz
      have HB := Lib.hid hb
      clear hz hb
      go_wp2_with fail
      refine bodyPost_ret (res24t rfl _ _ z rfl rfl HZ.out) rfl ?_
      exact OPost.no (HRX.out.trans HRN.out) HTY.out HB.out
    · subst hj
      obtain ⟨m2, rfl⟩ : ∃ m2, m' = m2 + 1 := ⟨m' - 1, by omega⟩
      have hq0 : (q : Int) ≥ 0 := by omega
      have HQ := Lib.hid hq
      cases h7 : takeL [46] (l.drop q) with
      | none =>
        have HRN : Hid (R = some (u, l.drop q)) := Lib.hid (by rw [hR]; simp only [dots, h7])
        have HPS : Hid (l.length - (l.drop q).length = q) := Lib.hid (by rw [List.length_drop]; omega)
        have hB := begins_no l HLL.out q HQ.out ⟨#[46]⟩ (by decide) h7 wr
        rw [← HS.out] at hB
        have HB := Lib.hid hB
        clear hB
        clear h7 hR HD hq hm
        apply wp_region_lit
        (with_reducible refine wl_k ?_ ?_); exact rfl; intro K hK; go_simp; refine hK _ ?_; clear hK K
        (with_reducible refine wl_k ?_ ?_); exact rfl; intro K hK; go_simp; refine hK _ ?_; clear hK K
        (with_reducible refine wl_k ?_ ?_); exact rfl; intro K hK; go_simp; refine hK _ ?_; clear hK K
        (with_reducible refine wl_k ?_ ?_); exact rfl; intro K hK; go_simp; refine hK _ ?_; clear hK K
        (with_reducible refine wl_k ?_ ?_); exact rfl; intro K hK; go_simp; refine hK _ ?_; clear hK K
        (with_reducible refine wl_ck ?_ ?_); exact rfl; intro K hK; go_simp; refine ⟨_, _, ⟨rfl, rfl⟩, hK _ _ ⟨_, HB.out, ?_⟩⟩; clear hK K; rintro e w1 ⟨rfl, rfl⟩; refine ⟨_, rfl, ?_⟩; simp only [put_lit, List.set_cons_zero, List.set_cons_succ]
        (with_reducible refine wl_k ?_ ?_); exact rfl; intro K hK; go_simp; refine hK _ ?_; clear hK K
        clear HB
        go_upto_region 18 with (fail)
        apply wp_region_lit
        (first | ((with_reducible apply wl_oneG); exact rfl; exact rfl; first | exact f0 (by with_reducible assumption) | exact f1 (by with_reducible assumption) | exact f2 (by with_reducible assumption) | exact f3 (by with_reducible assumption) | with_reducible assumption | exact g22 (by with_reducible assumption) | exact g25 (by with_reducible assumption)) | ((with_reducible apply wl_rowG); exact rfl; exact rfl; first | with_reducible assumption | exact RowK.now (by with_reducible assumption) | exact f4 (by with_reducible assumption)))
        (with_reducible refine wl_k ?_ ?_); exact rfl; intro K hK; go_simp; refine hK _ ?_; clear hK K
        (with_reducible refine wl_put rfl rfl hz ?_); rw [put_noneA]; intro W36 hbx hsz hkx hnx; replace hz11 := (hkx _ (by omega)).trans hz11; replace hb := hbx _ _ (by omega) hb; clear hz; have hz := hnx; clear hnx
        (with_reducible refine wl_k ?_ ?_); exact rfl; intro K hK; go_simp; refine hK _ ?_; clear hK K
        replace HTY := Lib.hid ((HTY.out.mono (D' := fun b => w.heap.size ≤ b) (fun _ h => h.1) (fun b hb => hkx b hb.2.1)))
        clear hbx hkx hsz hz11
        have HZ := Lib.hid hz
        have HB := Lib.hid hb
        clear hz hb
        go_wp2_with fail
        refine bodyPost_ret (res24t rfl _ _ z rfl rfl HZ.out) rfl ?_
        exact OPost.yes (HRX.out.trans HRN.out) HPS.out HTY.out HB.out
      | some s3 =>
        obtain ⟨q1, hq1⟩ : ∃ q1, q1 = q + 1 := ⟨_, rfl⟩
        have hd1 : l.drop q1 = s3 := by rw [hq1]; exact take_drop h7
        have hle1 : q1 ≤ l.length := by rw [hq1]; exact take_le HQ.out h7
        have hl7 := take_len h7
        have hB := begins_yes l HLL.out q HQ.out ⟨#[46]⟩ s3 h7 wr
        rw [← HS.out] at hB
        have HB := Lib.hid hB
        clear hB
        apply wp_region_lit
        (with_reducible refine wl_k ?_ ?_); exact rfl; intro K hK; go_simp; refine hK _ ?_; clear hK K
        (with_reducible refine wl_k ?_ ?_); exact rfl; intro K hK; go_simp; refine hK _ ?_; clear hK K
        (with_reducible refine wl_k ?_ ?_); exact rfl; intro K hK; go_simp; refine hK _ ?_; clear hK K
        (with_reducible refine wl_k ?_ ?_); exact rfl; intro K hK; go_simp; refine hK _ ?_; clear hK K
        (with_reducible refine wl_k ?_ ?_); exact rfl; intro K hK; go_simp; refine hK _ ?_; clear hK K
        (with_reducible refine wl_ck ?_ ?_); exact rfl; intro K hK; go_simp; refine ⟨_, _, ⟨rfl, rfl⟩, hK _ _ ⟨_, HB.out, ?_⟩⟩; clear hK K; rintro e w1 ⟨rfl, rfl⟩; refine ⟨_, rfl, ?_⟩; simp only [put_lit, List.set_cons_zero, List.set_cons_succ]
        (with_reducible refine wl_k ?_ ?_); exact rfl; intro K hK; go_simp; refine hK _ ?_; clear hK K
        clear HB
        obtain ⟨j2, hj2⟩ : ∃ j2, j2 = nameEnd l q1 := ⟨_, rfl⟩
        have hnl := nameEnd_le hle1
        have hN := name_any l HLL.out q1 hle1 wr
        rw [← HS.out, ← hj2] at hN
        rw [← hj2] at hnl
        have HNM := Lib.hid hN
        have hij : q1 ≤ j2 := hnl.1
        have hjs : j2 ≤ s.size := by rw [HSZ.out]; exact hnl.2
        have hi1s : q1 ≤ s.size := by omega
        have hi1I : (q : Int) + 1 = (q1 : Int) := by omega
        have hi1w : IntKind.i64.wrap (q1 : Int) = (q1 : Int) := IntWalk.i64_in _ (by omega)
        have hijI : (q1 : Int) ≤ (j2 : Int) := by omega
        have hjI : (j2 : Int) ≤ (s.size : Int) := by omega
        have hqj : q < j2 := by omega
        obtain ⟨x, hx⟩ : ∃ x, x = s.extract q1 j2 := ⟨_, rfl⟩
        have HX := Lib.hid hx
        have hxe : x = strOf (s3.takeWhile isW) := by rw [hx, HS.out, hj2, name_ext hle1, hd1]
        have HXZ : Hid (x.size ≤ maxLen) := Lib.hid (by rw [hxe, ← hd1]; exact tw_small HLL.out)
        have hdj : l.drop j2 = s3.dropWhile isW := by rw [hj2, name_drop, hd1]
        have HDN : Hid (∃ q m' : Nat, (j2 : Int) = (q : Int) ∧ q ≤ l.length ∧ (l.drop q).length < m' ∧ R = some (dots m' (.node 8 x 0 [u]) (l.drop q))) := Lib.hid ⟨j2, m2, rfl, hnl.2, by
          have := dw_len s3
          rw [hdj]
          simp only [List.length_cons, List.length_nil] at hl7
          omega, by rw [hR, hdj, hxe]; simp only [dots, h7]⟩
        clear h7 hd1 hle1 hj2 hnl hN hx hxe hq1 hdj hl7 hR hm hq HD
        go_upto_region 15 with (fail)
        apply wp_region_lit
        (with_reducible refine wl_k ?_ ?_); exact rfl; intro K hK; go_simp; refine hK _ ?_; clear hK K
        (with_reducible refine wl_k ?_ ?_); exact rfl; intro K hK; go_simp; refine hK _ ?_; clear hK K
        (with_reducible refine wl_k ?_ ?_); exact rfl; intro K hK; go_simp; refine hK _ ?_; clear hK K
        (with_reducible refine wl_ck ?_ ?_); exact rfl; intro K hK; go_simp; refine ⟨_, _, ⟨rfl, rfl⟩, hK _ _ ⟨_, HNM.out, ?_⟩⟩; clear hK K; rintro e w2 ⟨rfl, rfl⟩; refine ⟨_, rfl, ?_⟩; simp only [put_lit, List.set_cons_zero, List.set_cons_succ]
        (with_reducible refine wl_k ?_ ?_); exact rfl; intro K hK; go_simp; refine hK _ ?_; clear hK K
        clear HNM
        go_upto_region 16 with (fail)
        have hdr := Below.refl wr.heap.size wr |>.drew
        have hwr := hb.size
        refine wp_region_held_drew (S := Below w.heap.size w) mixed (hb.trans (hdr.mono hb.size)) (fun hS => ?_)
        refine ha_k (i := 0) rfl (by kernel_rfl) (by kernel_rfl) (by kernel_rfl) (fun _ _ _ _ h => h) hS rfl (fun K hK => ?_); go_simp; refine hK _ ?_; clear hK K; try simp only [put_lit, List.set_cons_zero, List.set_cons_succ]
        refine ha_k (i := 1) rfl (by kernel_rfl) (by kernel_rfl) (by kernel_rfl) (fun _ _ _ _ h => h) hS rfl (fun K hK => ?_); go_simp; refine hK _ ?_; clear hK K; try simp only [put_lit, List.set_cons_zero, List.set_cons_succ]
        refine ha_k (i := 2) rfl (by kernel_rfl) (by kernel_rfl) (by kernel_rfl) (fun _ _ _ _ h => h) hS rfl (fun K hK => ?_); go_simp; refine hK _ ?_; clear hK K; try simp only [put_lit, List.set_cons_zero, List.set_cons_succ]
        refine ha_k (i := 3) rfl (by kernel_rfl) (by kernel_rfl) (by kernel_rfl) (fun _ _ _ _ h => h) hS rfl (fun K hK => ?_); go_simp; refine hK _ ?_; clear hK K; try simp only [put_lit, List.set_cons_zero, List.set_cons_succ]
        refine ha_k (i := 4) rfl (by kernel_rfl) (by kernel_rfl) (by kernel_rfl) (fun _ _ _ _ h => h) hS rfl (fun K hK => ?_); go_simp; refine hK _ ?_; clear hK K; try simp only [put_lit, List.set_cons_zero, List.set_cons_succ]
        rw [← HX.out]
        replace hz := below_look hdr hz
        replace hz11 := below_look hdr hz11
        replace HTY := Lib.hid (HTY.out.old hdr)
        clear hdr hb
        refine ha_do (i := 5) (by kernel_rfl) rfl rfl (ex_row rfl (f4 hz11)) hS ?_
        try simp only [List.getElem_toArray, List.getElem_cons_succ, List.getElem_cons_zero, put_lit, List.set_cons_zero, List.set_cons_succ]
        refine ha_bs (i := 6) (by kernel_rfl) rfl rfl _ rfl rfl (fun W' hW' => hS.trans (hW'.mono hS.size)) ?_
        intro X5 q3 hbn hlq3 hq3 hS5
        have hzl := heap_lt hz
        have hz11l := heap_lt hz11
        replace hz := below_look hbn hz
        replace hz11 := below_look hbn hz11
        replace HTY := Lib.hid (HTY.out.old hbn)
        have hq3w : w.heap.size ≤ q3 := by have := hS.size; omega
        clear hbn hS
        try simp only [List.getElem_toArray, List.getElem_cons_succ, List.getElem_cons_zero, put_lit, List.set_cons_zero, List.set_cons_succ]
        refine ha_val (i := 7) rfl (by kernel_rfl) (by kernel_rfl) (by kernel_rfl) (fun _ _ _ h => h) hS5 rfl (fun w' hw' => ex_build 24 _ rfl (L := [(0, .int .i64 8), (1, .string x), (3, .slice (some ⟨q3, 0, none⟩) 1 1)]) rfl (built24s x _ _ _)) ?_; try simp only [List.getElem_toArray, List.getElem_cons_succ, List.getElem_cons_zero, put_lit, List.set_cons_zero, List.set_cons_succ]
        refine ha_putX (i := 8) (by kernel_rfl) rfl rfl _ _ rfl rfl rfl hz11 (fun W' hbx hkx => hbx _ _ (by omega) hS5) ?_
        intro W6 hbx hsz hkx hz116 hS6
        have hzF := (hkx z (by omega)).trans hz
        have hq6 := (hkx q3 (by omega)).trans hq3
        have HTY6 := Lib.hid (HTY.out.mono (D' := fun b => w.heap.size ≤ b ∧ b ≠ z ∧ b ≠ z11) (fun _ h => h) (fun b hb => hkx b hb.2.2))
        have HTY7 : Hid (TyAt W6 (fun b => w.heap.size ≤ b ∧ b ≠ z ∧ b ≠ z11) (.node 8 x 0 [u]) (cell4 8 x 0 (some ⟨q3, 0, none⟩) 1 1)) := Lib.hid (TyAt.of (by rfl) (by rfl) HXZ.out (one_in HTY6.out (by refine ⟨?_, ?_, ?_⟩ <;> omega) hq6))
        clear hbx hkx hsz hS5 hz11 hz hq3 hq6 HTY HTY6
        refine wpAnyH_done (by kernel_rfl) ?_ _
        try simp only [List.getElem_toArray, List.getElem_cons_succ, List.getElem_cons_zero, put_lit, List.set_cons_zero, List.set_cons_succ]
        try simp only [put_noneA]
        go_upto_region 17 with (fail)
        apply wp_region_lit
        (with_reducible refine wl_k ?_ ?_); exact rfl; intro K hK; go_simp; refine hK _ ?_; clear hK K
        (with_reducible refine wl_k ?_ ?_); exact rfl; intro K hK; go_simp; refine hK _ ?_; clear hK K
        go_wp2_with fail
        go_roundw
        case rel => exact ⟨_, _, _, _, _, _, _, _, rfl, hzF, hz116, HTY7, hS6, Lib.hid (Or.inr HDN.out)⟩
        case measure => simp [intOf]; omega
theorem one_all (l : List UInt8) (hl : l.length ≤ 10000) : ∀ n, OneC l n
  | 0 => fun i _ hn => by omega
  | n + 1 => one_succ l hl n (one_all l hl n)
end Go.Proofs.YtokmaehefenpmaaDoor
namespace Go.Proofs.YtokmaehefenpmaaDoor
theorem typ_rd : ∀ left, left ≤ 1000 → RdC left
  | 0, _ => fun w r l _ h _ _ t l1 f hx => by
    simp only [rdTyp, Option.some.injEq, Prod.mk.injEq] at hx
    obtain ⟨rfl, rfl, rfl⟩ := hx
    exact typ_zero w r l false h
  | left + 1, h => typ_succ left (by omega) (typ_rd left (by omega))
end Go.Proofs.YtokmaehefenpmaaDoor
namespace Go.Proofs.YtokmaehefenpmaaDoor
open Go.RowKit Go.Proofs.YtokmaehefenpmaaDoor.Nm
set_option linter.unusedSimpArgs false
theorem run_box82 (s : ByteArray) (w : World) : (Instr.box 82 (.agg #[.string s, .bool false])).run Tryd.prog w = .ok (.pointer (some ⟨w.heap.size, 0, none⟩)) (w.alloc (.cells #[.string s, .bool false] 82)) := by kernel_rfl
section
variable {ops : Array Oper} {rest : List Oper} {dst : Option Tmp} {ty' : TypeId} {x : Operand} {pos : String} {after : Array Edge} {a : Act} {w : World} {Q : Exit → Act → World → Prop}
theorem wl_box82 {l : List UInt8} (hx : a.eval x = .agg #[.string (strOf l), .bool false])
    (h : ∀ W p, Below w.heap.size w W → w.heap.size ≤ p → Rs W p l false → wpList Tryd.prog ops Q rest (a.put dst (.pointer (some ⟨p, 0, none⟩))) W) :
    wpList Tryd.prog ops Q (⟨dst, .box 82 x, ty', pos, after, none⟩ :: rest) a w :=
  wl_w rfl (by unfold execOp; simp [hx, run_box82 (strOf l) w, Result.andThen]) (h _ _ ((Below.refl _ w).alloc (Nat.le_refl _) _) (Nat.le_refl _) (ha_new rfl))
end
theorem strOf_inj {a b : List UInt8} (h : strOf a = strOf b) : a = b := by
  have := congrArg (fun s => s.data.toList) h
  simpa [strOf] using this
theorem toList_inj {a b : ByteArray} (h : a.toList = b.toList) : a = b := by
  rw [ByteArray.toList_eq, ByteArray.toList_eq] at h
  rw [← str_back a, ← str_back b, h]
theorem strOf_empty (l : List UInt8) : (strOf l).toList.isEmpty = l.isEmpty := by rw [ByteArray.toList_eq]; simp [strOf]
theorem r0s {w : World} {r : Nat} {s : ByteArray} {f : Bool} (h : w.heap[r]? = some (.cells #[.string s, .bool f] 82 (0, 0))) : OneAt w 9 ⟨r, 0, none⟩ (.string s) := one_of u9 rfl (by rw [cell_of_row _ _ _ _ _ _ h]; rfl)
theorem r1s {w : World} {r : Nat} {s : ByteArray} {f : Bool} (h : w.heap[r]? = some (.cells #[.string s, .bool f] 82 (0, 0))) : OneAt w 4 ⟨r, 1, none⟩ (.bool f) := one_of u4 rfl (by rw [cell_of_row _ _ _ _ _ _ h]; rfl)
/-- Whether what was read is the text's type. -/
def prsB (l : List UInt8) (t : Ty) (l1 : List UInt8) (f : Bool) : Bool := !f && (l1.isEmpty && (validB true t && txtT t == l))
def PPost (w : World) (b : Bool) (t : Ty) (e : Ending) (w' : World) : Prop := ∃ row, e = .returned (.tuple #[.agg row, .int .i64 (if b then 0 else 30)]) ∧ TyAt w' (fun b => w.heap.size ≤ b) (if b then t else zeroTy) row ∧ Below w.heap.size w w'
set_option maxHeartbeats 4000000 in
set_option maxRecDepth 100000 in
theorem Parse_rd (l : List UInt8) (hlen : l.length ≤ 10000) (t : Ty) (l1 : List UInt8) (f : Bool) (hx : rdTyp 41 l = some (t, l1, f)) (w : World) (hsn : Sent w) : Calls Tryd.prog 35 #[.string (strOf l)] w (PPost w (prsB l t l1 f) t) := by
  have HX := Lib.hid hx
  have HRD := Lib.hid fun (w' : World) (r : Nat) (h : Rs w' r l false) h2 h3 => typ_rd 41 (by omega) w' r l hlen h h2 h3 t l1 f hx
  have HSN := Lib.hid hsn
  have hsl := hsn.lt
  clear hx hlen hsn
  have hb := Below.refl w.heap.size w
  go_enter Tryd.func35, Tryd.ntmps35
  go_upto_region 0 with (fail)
  apply wp_region_lit
  (with_reducible refine wl_all ?_); intro W z hbn hlz hz; replace hb := hb.trans (hbn.mono hb.size); clear hbn; simp only [put_lit, List.set_cons_zero, List.set_cons_succ]
  (with_reducible refine wl_k ?_ ?_); exact rfl; intro K hK; go_simp; refine hK _ ?_; clear hK K
  go_upto_region 1 with (fail)
  apply wp_region_lit
  (with_reducible refine wl_k ?_ ?_); exact rfl; intro K hK; go_simp; refine hK _ ?_; clear hK K
  (with_reducible refine wl_k ?_ ?_); exact rfl; intro K hK; go_simp; refine hK _ ?_; clear hK K
  ((with_reducible refine wl_box82 rfl ?_); intro W1 r hbn hlr hs; have ltz := heap_lt hz; replace hz := below_look hbn hz; replace hb := hb.trans (hbn.mono hb.size); clear hbn; simp only [put_lit, List.set_cons_zero, List.set_cons_succ])
  (with_reducible refine wl_k ?_ ?_); exact rfl; intro K hK; go_simp; refine hK _ ?_; clear hK K
  have hrw : w.heap.size ≤ r := by omega
  have hzr : z ≠ r := by omega
  have HT := Lib.hid (HRD.out W1 r hs (by omega) (HSN.out.old hb))
  clear HRD hs HSN hsl
  have hW1 := heap_lt hz
  go_upto_region 2 with (fail)
  apply wp_region_lit
  (with_reducible refine wl_k ?_ ?_); exact rfl; intro K hK; go_simp; refine hK _ ?_; clear hK K
  (with_reducible refine wl_ck ?_ ?_); exact rfl; intro K hK; go_simp; refine ⟨_, _, ⟨rfl, rfl⟩, hK _ _ ⟨_, HT.out, ?_⟩⟩; clear hK K; rintro e w2 ⟨row, rfl, hta, hs, hfr⟩; refine ⟨_, rfl, ?_⟩; simp only [put_lit, List.set_cons_zero, List.set_cons_succ]
  obtain ⟨k, s, n, A, lA, cA, ts, he, rfl, -⟩ := hta.parts
  replace hz := (hfr.keep z (heap_lt hz) hzr hzr).trans hz
  have HTA := Lib.hid (hta.weak (D' := fun b => w.heap.size ≤ b ∧ b ≠ z) fun b h => by omega)
  have HFR := Lib.hid hfr
  have hy := Below.refl w2.heap.size w2
  clear hta he hfr
  have lthzq := heap_lt hz; (with_reducible refine wl_all ?_); intro X1 q hbn hlq hq; replace hz := below_look hbn hz; replace hy := hy.trans (hbn.mono hy.size); clear hbn; simp only [put_lit, List.set_cons_zero, List.set_cons_succ]
  (with_reducible refine wl_put rfl rfl hq ?_); rw [put_noneA]; intro X2 hbx hsz hkx hnx; replace hz := (hkx _ (by omega)).trans hz; replace hy := hbx _ _ (by omega) hy; clear hq; have hq := hnx; clear hnx
  replace hs := hs.old hy
  replace HTA := Lib.hid (HTA.out.old hy)
  replace HFR := Lib.hid (HFR.out.trans (Fr.of hy))
  have hrX := hs.lt
  clear hy hbx hkx hsz HT
  obtain ⟨s1, hs1⟩ : ∃ s1, s1 = strOf l1 := ⟨_, rfl⟩
  have HS1 := Lib.hid hs1
  unfold Rs at hs
  rw [← hs1] at hs
  clear hs1
  cases f with
  | true =>
    go_upto_region 3 with (fail)
    apply wp_region_lit
    (with_reducible refine wl_k ?_ ?_); exact rfl; intro K hK; go_simp; refine hK _ ?_; clear hK K
    (with_reducible refine wl_k ?_ ?_); exact rfl; intro K hK; go_simp; refine hK _ ?_; clear hK K
    (with_reducible refine wl_k ?_ ?_); exact rfl; intro K hK; go_simp; refine hK _ ?_; clear hK K
    ((with_reducible apply wl_oneG); exact rfl; exact rfl; exact r1s hs)
    (with_reducible refine wl_k ?_ ?_); exact rfl; intro K hK; go_simp; refine hK _ ?_; clear hK K
    (first | ((with_reducible refine wl_skipU ?_ ?_ ?_); exact rfl; exact rfl) | ((with_reducible refine wl_skip ?_ ?_); exact rfl; simp only [put_lit, List.set_cons_zero, List.set_cons_succ]))
    (first | ((with_reducible refine wl_skipU ?_ ?_ ?_); exact rfl; exact rfl) | ((with_reducible refine wl_skip ?_ ?_); exact rfl; simp only [put_lit, List.set_cons_zero, List.set_cons_succ]))
    (first | ((with_reducible refine wl_skipU ?_ ?_ ?_); exact rfl; exact rfl) | ((with_reducible refine wl_skip ?_ ?_); exact rfl; simp only [put_lit, List.set_cons_zero, List.set_cons_succ]))
    (first | ((with_reducible refine wl_skipU ?_ ?_ ?_); exact rfl; exact rfl) | ((with_reducible refine wl_skip ?_ ?_); exact rfl; simp only [put_lit, List.set_cons_zero, List.set_cons_succ]))
    (first | ((with_reducible refine wl_skipU ?_ ?_ ?_); exact rfl; exact rfl) | ((with_reducible refine wl_skip ?_ ?_); exact rfl; simp only [put_lit, List.set_cons_zero, List.set_cons_succ]))
    (with_reducible refine wl_k ?_ ?_); exact rfl; intro K hK; go_simp; refine hK _ ?_; clear hK K
    replace hb := Fr.below hb hrw HFR.out
    clear HFR hs HTA
    have HPB := Lib.hid (show prsB l t l1 true = false from by simp [prsB])
    clear HX
    go_upto_region 4 with (fail)
    apply wp_region_lit
    refine wl_val rfl (ex_build 24 _ rfl (L := []) rfl built24z) ?_
    simp only [put_lit, List.set_cons_zero, List.set_cons_succ]
    (with_reducible refine wl_put rfl rfl hz ?_); rw [put_noneA]; intro W4 hbx hsz hkx hnx; replace hb := hbx _ _ (by omega) hb; clear hz; have hz := hnx; clear hnx
    (with_reducible refine wl_k ?_ ?_); exact rfl; intro K hK; go_simp; refine hK _ ?_; clear hK K
    clear hq
    have HZ := Lib.hid hz
    have HB := Lib.hid hb
    clear hz hb
    go_wp2_with fail
    exact bodyPost_ret (res24t rfl _ _ z rfl rfl HZ.out) rfl (by rw [HPB.out]; exact ⟨_, rfl, zero_tree _ _, HB.out⟩)
  | false =>
    by_cases hl1 : l1 = []
    · subst hl1
      have e1 : s1.toList.isEmpty = true := by rw [HS1.out, strOf_empty]; rfl
      go_upto_region 3 with (fail)
      apply wp_region_lit
      (with_reducible refine wl_k ?_ ?_); exact rfl; intro K hK; go_simp; refine hK _ ?_; clear hK K
      (with_reducible refine wl_k ?_ ?_); exact rfl; intro K hK; go_simp; refine hK _ ?_; clear hK K
      (with_reducible refine wl_k ?_ ?_); exact rfl; intro K hK; go_simp; refine hK _ ?_; clear hK K
      ((with_reducible apply wl_oneG); exact rfl; exact rfl; exact r1s hs)
      (with_reducible refine wl_k ?_ ?_); exact rfl; intro K hK; go_simp; refine hK _ ?_; clear hK K
      (with_reducible refine wl_k ?_ ?_); exact rfl; intro K hK; go_simp; refine hK _ ?_; clear hK K
      (with_reducible refine wl_k ?_ ?_); exact rfl; intro K hK; go_simp; refine hK _ ?_; clear hK K
      (with_reducible refine wl_k ?_ ?_); exact rfl; intro K hK; go_simp; refine hK _ ?_; clear hK K
      ((with_reducible apply wl_oneG); exact rfl; exact rfl; exact r0s hs)
      (with_reducible refine wl_k ?_ ?_); exact rfl; intro K hK; go_simp; refine hK _ ?_; clear hK K
      (with_reducible refine wl_k ?_ ?_); exact rfl; intro K hK; go_simp; refine hK _ ?_; clear hK K
      clear e1
      clear hs HS1
      replace HFR := Lib.hid (Fr.below hb hrw HFR.out)
      clear hb
      have HFM := Lib.hid (Format_any t X2 _ _ HTA.out)
      cases hv : validB true t with
      | false =>
        have HPB := Lib.hid (show prsB l t [] false = false from by simp [prsB, hv])
        unfold fmtV at HFM
        rw [if_neg (by simp [hv])] at HFM
        clear hv HX
        go_upto_region 5 with (fail)
        apply wp_region_lit
        (first | ((with_reducible apply wl_oneG); exact rfl; exact rfl; first | exact f0 (by with_reducible assumption) | exact f1 (by with_reducible assumption) | exact f2 (by with_reducible assumption) | exact f3 (by with_reducible assumption) | with_reducible assumption | exact g22 (by with_reducible assumption) | exact g25 (by with_reducible assumption)) | ((with_reducible apply wl_rowG); exact rfl; exact rfl; first | with_reducible assumption | exact RowK.now (by with_reducible assumption) | exact f4 (by with_reducible assumption)))
        (with_reducible refine wl_ck ?_ ?_); exact rfl; intro K hK; go_simp; refine ⟨_, _, ⟨rfl, rfl⟩, hK _ _ ⟨_, HFM.out, ?_⟩⟩; clear hK K; rintro e w5 ⟨rfl, hy⟩; refine ⟨_, rfl, ?_⟩; simp only [put_lit, List.set_cons_zero, List.set_cons_succ]
        (with_reducible refine wl_k ?_ ?_); exact rfl; intro K hK; go_simp; refine hK _ ?_; clear hK K
        (with_reducible refine wl_k ?_ ?_); exact rfl; intro K hK; go_simp; refine hK _ ?_; clear hK K
        (with_reducible refine wl_k ?_ ?_); exact rfl; intro K hK; go_simp; refine hK _ ?_; clear hK K
        (with_reducible refine wl_k ?_ ?_); exact rfl; intro K hK; go_simp; refine hK _ ?_; clear hK K
        (with_reducible refine wl_k ?_ ?_); exact rfl; intro K hK; go_simp; refine hK _ ?_; clear hK K
        replace hz := below_look hy hz
        have hb := HFR.out.trans (hy.mono HFR.out.size)
        clear hy HFM HTA HFR hq
        go_upto_region 6 with (fail)
        apply wp_region_lit
        (with_reducible refine wl_k ?_ ?_); exact rfl; intro K hK; go_simp; refine hK _ ?_; clear hK K
        (with_reducible refine wl_k ?_ ?_); exact rfl; intro K hK; go_simp; refine hK _ ?_; clear hK K
        (with_reducible refine wl_k ?_ ?_); exact rfl; intro K hK; go_simp; refine hK _ ?_; clear hK K
        (first | ((with_reducible refine wl_skipU ?_ ?_ ?_); exact rfl; exact rfl) | ((with_reducible refine wl_skip ?_ ?_); exact rfl; simp only [put_lit, List.set_cons_zero, List.set_cons_succ]))
        (first | ((with_reducible refine wl_skipU ?_ ?_ ?_); exact rfl; exact rfl) | ((with_reducible refine wl_skip ?_ ?_); exact rfl; simp only [put_lit, List.set_cons_zero, List.set_cons_succ]))
        (first | ((with_reducible refine wl_skipU ?_ ?_ ?_); exact rfl; exact rfl) | ((with_reducible refine wl_skip ?_ ?_); exact rfl; simp only [put_lit, List.set_cons_zero, List.set_cons_succ]))
        (with_reducible refine wl_k ?_ ?_); exact rfl; intro K hK; go_simp; refine hK _ ?_; clear hK K
        go_upto_region 7 with (fail)
        apply wp_region_lit
        refine wl_val rfl (ex_build 24 _ rfl (L := []) rfl built24z) ?_
        simp only [put_lit, List.set_cons_zero, List.set_cons_succ]
        (with_reducible refine wl_put rfl rfl hz ?_); rw [put_noneA]; intro W4 hbx hsz hkx hnx; replace hb := hbx _ _ (by omega) hb; clear hz; have hz := hnx; clear hnx
        (with_reducible refine wl_k ?_ ?_); exact rfl; intro K hK; go_simp; refine hK _ ?_; clear hK K
        have HZ := Lib.hid hz
        have HB := Lib.hid hb
        clear hz hb
        go_wp2_with fail
        exact bodyPost_ret (res24t rfl _ _ z rfl rfl HZ.out) rfl (by rw [HPB.out]; exact ⟨_, rfl, zero_tree _ _, HB.out⟩)
      | true =>
        unfold fmtV at HFM
        rw [if_pos hv] at HFM
        obtain ⟨x, hx⟩ : ∃ x, x = strOf (txtT t) := ⟨_, rfl⟩
        have HX2 := Lib.hid hx
        rw [show (⟨(txtT t).toArray⟩ : ByteArray) = x from hx.symm] at HFM
        obtain ⟨y, hy0⟩ : ∃ y, y = strOf l := ⟨_, rfl⟩
        have HY := Lib.hid hy0
        rw [← hy0]
        by_cases hxy : x = y
        · have HPB := Lib.hid (show prsB l t [] false = true from by
            have : txtT t = l := strOf_inj (hx.symm.trans (hxy.trans hy0))
            simp [prsB, hv, this])
          have e1 : (x.toList == y.toList) = true := by rw [hxy]; exact beq_self_eq_true _
          clear hv HX hx hxy hy0 HX2 HY
          go_upto_region 5 with (fail)
          apply wp_region_lit
          (first | ((with_reducible apply wl_oneG); exact rfl; exact rfl; first | exact f0 (by with_reducible assumption) | exact f1 (by with_reducible assumption) | exact f2 (by with_reducible assumption) | exact f3 (by with_reducible assumption) | with_reducible assumption | exact g22 (by with_reducible assumption) | exact g25 (by with_reducible assumption)) | ((with_reducible apply wl_rowG); exact rfl; exact rfl; first | with_reducible assumption | exact RowK.now (by with_reducible assumption) | exact f4 (by with_reducible assumption)))
          (with_reducible refine wl_ck ?_ ?_); exact rfl; intro K hK; go_simp; refine ⟨_, _, ⟨rfl, rfl⟩, hK _ _ ⟨_, HFM.out, ?_⟩⟩; clear hK K; rintro e w5 ⟨rfl, hy⟩; refine ⟨_, rfl, ?_⟩; simp only [put_lit, List.set_cons_zero, List.set_cons_succ]
          (with_reducible refine wl_k ?_ ?_); exact rfl; intro K hK; go_simp; refine hK _ ?_; clear hK K
          (with_reducible refine wl_k ?_ ?_); exact rfl; intro K hK; go_simp; refine hK _ ?_; clear hK K
          (with_reducible refine wl_k ?_ ?_); exact rfl; intro K hK; go_simp; refine hK _ ?_; clear hK K
          (with_reducible refine wl_k ?_ ?_); exact rfl; intro K hK; go_simp; refine hK _ ?_; clear hK K
          (with_reducible refine wl_k ?_ ?_); exact rfl; intro K hK; go_simp; refine hK _ ?_; clear hK K
          replace hz := below_look hy hz
          replace hq := below_look hy hq
          have hb := HFR.out.trans (hy.mono HFR.out.size)
          replace HTA := Lib.hid (HTA.out.old hy)
          clear hy HFM HFR
          go_upto_region 6 with (fail)
          apply wp_region_lit
          (with_reducible refine wl_k ?_ ?_); exact rfl; intro K hK; go_simp; refine hK _ ?_; clear hK K
          (with_reducible refine wl_k ?_ ?_); exact rfl; intro K hK; go_simp; refine hK _ ?_; clear hK K
          (with_reducible refine wl_k ?_ ?_); exact rfl; intro K hK; go_simp; refine hK _ ?_; clear hK K
          (with_reducible refine wl_k ?_ ?_); exact rfl; intro K hK; go_simp; refine hK _ ?_; clear hK K
          (with_reducible refine wl_k ?_ ?_); exact rfl; intro K hK; go_simp; refine hK _ ?_; clear hK K
          (with_reducible refine wl_k ?_ ?_); exact rfl; intro K hK; go_simp; refine hK _ ?_; clear hK K
          (with_reducible refine wl_k ?_ ?_); exact rfl; intro K hK; go_simp; refine hK _ ?_; clear hK K
          clear e1
          go_upto_region 8 with (fail)
          apply wp_region_lit
          (first | ((with_reducible apply wl_oneG); exact rfl; exact rfl; first | exact f0 (by with_reducible assumption) | exact f1 (by with_reducible assumption) | exact f2 (by with_reducible assumption) | exact f3 (by with_reducible assumption) | with_reducible assumption | exact g22 (by with_reducible assumption) | exact g25 (by with_reducible assumption)) | ((with_reducible apply wl_rowG); exact rfl; exact rfl; first | with_reducible assumption | exact RowK.now (by with_reducible assumption) | exact f4 (by with_reducible assumption)))
          (with_reducible refine wl_put rfl rfl hz ?_); rw [put_noneA]; intro W4 hbx hsz hkx hnx; replace hb := hbx _ _ (by omega) hb; clear hz; have hz := hnx; clear hnx
          replace HTA := Lib.hid (HTA.out.mono (D' := fun b => w.heap.size ≤ b ∧ b ≠ z) (fun _ h => h) (fun b hb => hkx b hb.2))
          (with_reducible refine wl_k ?_ ?_); exact rfl; intro K hK; go_simp; refine hK _ ?_; clear hK K
          have HZ := Lib.hid hz
          have HB := Lib.hid hb
          clear hz hb hq
          go_wp2_with fail
          exact bodyPost_ret (res24t rfl _ _ z rfl rfl HZ.out) rfl (by rw [HPB.out]; exact ⟨_, rfl, HTA.out.weak fun _ h => h.1, HB.out⟩)
        · have HPB := Lib.hid (show prsB l t [] false = false from by
            have : txtT t ≠ l := fun e => hxy (by rw [hx, hy0, e])
            simp [prsB, hv, this])
          have e1 : (x.toList == y.toList) = false := beq_eq_false_iff_ne.2 fun h => hxy (toList_inj h)
          clear hv HX hx hxy hy0 HX2 HY
          go_upto_region 5 with (fail)
          apply wp_region_lit
          (first | ((with_reducible apply wl_oneG); exact rfl; exact rfl; first | exact f0 (by with_reducible assumption) | exact f1 (by with_reducible assumption) | exact f2 (by with_reducible assumption) | exact f3 (by with_reducible assumption) | with_reducible assumption | exact g22 (by with_reducible assumption) | exact g25 (by with_reducible assumption)) | ((with_reducible apply wl_rowG); exact rfl; exact rfl; first | with_reducible assumption | exact RowK.now (by with_reducible assumption) | exact f4 (by with_reducible assumption)))
          (with_reducible refine wl_ck ?_ ?_); exact rfl; intro K hK; go_simp; refine ⟨_, _, ⟨rfl, rfl⟩, hK _ _ ⟨_, HFM.out, ?_⟩⟩; clear hK K; rintro e w5 ⟨rfl, hy⟩; refine ⟨_, rfl, ?_⟩; simp only [put_lit, List.set_cons_zero, List.set_cons_succ]
          (with_reducible refine wl_k ?_ ?_); exact rfl; intro K hK; go_simp; refine hK _ ?_; clear hK K
          (with_reducible refine wl_k ?_ ?_); exact rfl; intro K hK; go_simp; refine hK _ ?_; clear hK K
          (with_reducible refine wl_k ?_ ?_); exact rfl; intro K hK; go_simp; refine hK _ ?_; clear hK K
          (with_reducible refine wl_k ?_ ?_); exact rfl; intro K hK; go_simp; refine hK _ ?_; clear hK K
          (with_reducible refine wl_k ?_ ?_); exact rfl; intro K hK; go_simp; refine hK _ ?_; clear hK K
          replace hz := below_look hy hz
          have hb := HFR.out.trans (hy.mono HFR.out.size)
          clear hy HFM HTA HFR hq
          go_upto_region 6 with (fail)
          apply wp_region_lit
          (with_reducible refine wl_k ?_ ?_); exact rfl; intro K hK; go_simp; refine hK _ ?_; clear hK K
          (with_reducible refine wl_k ?_ ?_); exact rfl; intro K hK; go_simp; refine hK _ ?_; clear hK K
          (with_reducible refine wl_k ?_ ?_); exact rfl; intro K hK; go_simp; refine hK _ ?_; clear hK K
          (with_reducible refine wl_k ?_ ?_); exact rfl; intro K hK; go_simp; refine hK _ ?_; clear hK K
          (with_reducible refine wl_k ?_ ?_); exact rfl; intro K hK; go_simp; refine hK _ ?_; clear hK K
          (with_reducible refine wl_k ?_ ?_); exact rfl; intro K hK; go_simp; refine hK _ ?_; clear hK K
          (with_reducible refine wl_k ?_ ?_); exact rfl; intro K hK; go_simp; refine hK _ ?_; clear hK K
          clear e1
          go_upto_region 7 with (fail)
          apply wp_region_lit
          refine wl_val rfl (ex_build 24 _ rfl (L := []) rfl built24z) ?_
          simp only [put_lit, List.set_cons_zero, List.set_cons_succ]
          (with_reducible refine wl_put rfl rfl hz ?_); rw [put_noneA]; intro W4 hbx hsz hkx hnx; replace hb := hbx _ _ (by omega) hb; clear hz; have hz := hnx; clear hnx
          (with_reducible refine wl_k ?_ ?_); exact rfl; intro K hK; go_simp; refine hK _ ?_; clear hK K
          have HZ := Lib.hid hz
          have HB := Lib.hid hb
          clear hz hb
          go_wp2_with fail
          exact bodyPost_ret (res24t rfl _ _ z rfl rfl HZ.out) rfl (by rw [HPB.out]; exact ⟨_, rfl, zero_tree _ _, HB.out⟩)
    · have e1 : s1.toList.isEmpty = false := by rw [HS1.out, strOf_empty]; simp [hl1]
      go_upto_region 3 with (fail)
      apply wp_region_lit
      (with_reducible refine wl_k ?_ ?_); exact rfl; intro K hK; go_simp; refine hK _ ?_; clear hK K
      (with_reducible refine wl_k ?_ ?_); exact rfl; intro K hK; go_simp; refine hK _ ?_; clear hK K
      (with_reducible refine wl_k ?_ ?_); exact rfl; intro K hK; go_simp; refine hK _ ?_; clear hK K
      ((with_reducible apply wl_oneG); exact rfl; exact rfl; exact r1s hs)
      (with_reducible refine wl_k ?_ ?_); exact rfl; intro K hK; go_simp; refine hK _ ?_; clear hK K
      (with_reducible refine wl_k ?_ ?_); exact rfl; intro K hK; go_simp; refine hK _ ?_; clear hK K
      (with_reducible refine wl_k ?_ ?_); exact rfl; intro K hK; go_simp; refine hK _ ?_; clear hK K
      (with_reducible refine wl_k ?_ ?_); exact rfl; intro K hK; go_simp; refine hK _ ?_; clear hK K
      ((with_reducible apply wl_oneG); exact rfl; exact rfl; exact r0s hs)
      (with_reducible refine wl_k ?_ ?_); exact rfl; intro K hK; go_simp; refine hK _ ?_; clear hK K
      (with_reducible refine wl_k ?_ ?_); exact rfl; intro K hK; go_simp; refine hK _ ?_; clear hK K
      replace hb := Fr.below hb hrw HFR.out
      clear HFR hs HTA
      have HPB := Lib.hid (show prsB l t l1 false = false from by simp [prsB, hl1])
      clear HX
      clear e1 hl1
      go_upto_region 4 with (fail)
      apply wp_region_lit
      refine wl_val rfl (ex_build 24 _ rfl (L := []) rfl built24z) ?_
      simp only [put_lit, List.set_cons_zero, List.set_cons_succ]
      (with_reducible refine wl_put rfl rfl hz ?_); rw [put_noneA]; intro W4 hbx hsz hkx hnx; replace hb := hbx _ _ (by omega) hb; clear hz; have hz := hnx; clear hnx
      (with_reducible refine wl_k ?_ ?_); exact rfl; intro K hK; go_simp; refine hK _ ?_; clear hK K
      clear hq
      have HZ := Lib.hid hz
      have HB := Lib.hid hb
      clear hz hb
      go_wp2_with fail
      exact bodyPost_ret (res24t rfl _ _ z rfl rfl HZ.out) rfl (by rw [HPB.out]; exact ⟨_, rfl, zero_tree _ _, HB.out⟩)
end Go.Proofs.YtokmaehefenpmaaDoor
namespace Go.Proofs.YtokmaehefenpmaaDoor
theorem rdList_total {rd : List UInt8 → Option (Ty × List UInt8 × Bool)} (hr : ∀ s, ∃ x, rd s = some x) (hl : LenOk rd) (e : List UInt8) : ∀ (n : Nat) (acc : List Ty) (s : List UInt8), s.length < n → ∃ x, rdList rd e n acc s = some x
  | 0, _, _, h => by omega
  | n + 1, acc, s, h => by
    obtain ⟨⟨t, s1, f1⟩, h1⟩ := hr s
    have h2 := hl _ _ _ _ h1
    simp only [rdList, h1]
    split
    · rename_i s2 h3
      have h4 := take_len h3
      simp at h4
      split
      · exact ⟨_, rfl⟩
      · exact rdList_total hr hl e n _ _ (by omega)
    · split <;> exact ⟨_, rfl⟩
theorem rdArgs_total {rd : List UInt8 → Option (Ty × List UInt8 × Bool)} (hr : ∀ s, ∃ x, rd s = some x) (hl : LenOk rd) (e s : List UInt8) : ∃ x, rdArgs rd e s = some x := by
  unfold rdArgs
  split
  · exact ⟨_, rfl⟩
  · exact rdList_total hr hl e _ _ _ (by omega)
theorem rdTyp_total : ∀ (left : Nat) (s : List UInt8), ∃ x, rdTyp left s = some x
  | 0, s => ⟨_, rfl⟩
  | left + 1, s => by
    have ih := rdTyp_total left
    have hl := rdTyp_len left
    simp only [rdTyp]
    split
    · rename_i s1 h1
      unfold rdFn
      obtain ⟨⟨l, s2, f⟩, h2⟩ := rdArgs_total ih hl [41, 32, 45, 62, 32] s1
      rw [h2]
      cases f with
      | true => exact ⟨_, rfl⟩
      | false =>
        obtain ⟨⟨t, s3, g⟩, h3⟩ := ih s2
        simp only [h3]
        exact ⟨_, rfl⟩
    · split
      · exact ⟨_, rfl⟩
      · have ha : ∃ x, rdAtom (rdTyp left) s = some x := by
          unfold rdAtom
          split
          · exact ⟨_, rfl⟩
          · split
            · exact ⟨_, rfl⟩
            · split
              · rename_i s2 h2
                obtain ⟨⟨l, s3, f⟩, h3⟩ := rdArgs_total ih hl [62] s2
                rw [h3]
                exact ⟨_, rfl⟩
              · exact ⟨_, rfl⟩
        obtain ⟨⟨t, s1, f⟩, h⟩ := ha
        rw [h]
        cases f <;> exact ⟨_, rfl⟩
/-- What the document takes a reading for. -/
def itB (l : List UInt8) : Option (Ty × List UInt8) → Option Ty
  | some (t, []) => if validB true t && txtT t == l then some t else none
  | _ => none
theorem itB_ok {l : List UInt8} {t : Ty} (hv : validB true t = true) (hx : txtT t = l) {n : Nat} (hn : l.length < n) : itB l (itOne n l) = some t := by
  subst hx
  rw [it_txt (valid_all hv).2 hn]
  simp [itB, hv]
theorem itB_is {l : List UInt8} {r : Option (Ty × List UInt8)} {t : Ty} (h : itB l r = some t) : validB true t = true ∧ txtT t = l := by
  unfold itB at h
  split at h
  · split at h
    · rename_i h2
      cases h
      simpa using h2
    · cases h
  · cases h
/-- Both readers take the same text for the same type. -/
theorem both_read {l : List UInt8} {t : Ty} {l1 : List UInt8} {f : Bool} (hx : rdTyp 41 l = some (t, l1, f)) {n : Nat} (hn : l.length < n) : itB l (itOne n l) = if prsB l t l1 f then some t else none := by
  have key : ∀ u, validB true u = true → txtT u = l → u = t ∧ prsB l t l1 f = true := fun u hv hu => by
    obtain ⟨h1, h2⟩ := valid_all hv
    have h3 := rd_txt h2 (left := 41) (by omega)
    rw [hu, hx] at h3
    simp only [Option.some.injEq, Prod.mk.injEq] at h3
    obtain ⟨rfl, rfl, rfl⟩ := h3
    exact ⟨rfl, by simp [prsB, hv, hu]⟩
  cases hp : prsB l t l1 f with
  | true =>
    have : validB true t = true ∧ txtT t = l := by
      simp [prsB] at hp
      exact ⟨hp.2.2.1, hp.2.2.2⟩
    rw [if_pos rfl]
    exact itB_ok this.1 this.2 hn
  | false =>
    simp only [Bool.false_eq_true, if_false]
    cases h : itB l (itOne n l) with
    | none => rfl
    | some u =>
      obtain ⟨g1, g2⟩ := itB_is h
      have := (key u g1 g2).2
      rw [hp] at this
      cases this
end Go.Proofs.YtokmaehefenpmaaDoor
namespace Go.Proofs.YtokmaehefenpmaaDoor
open Go.RowKit Go.Proofs.YtokmaehefenpmaaDoor.Nm
set_option linter.unusedSimpArgs false
theorem u5b : Tryd.prog.underlying 5 = some (.int .u8) := by kernel_rfl
theorem run_bs57 (x : Int) (w : World) : (Instr.buildSlice 57 1 #[(0, .int .u8 x)]).run Tryd.prog w = .ok (.slice (some ⟨w.heap.size, 0, none⟩) 1 1) (w.alloc (.cells #[.int .u8 x] 5)) := by kernel_rfl
theorem ex_bs57 {ev : Operand → Value} {o : Oper} {w : World} (x : Operand) (ho : o.op = .buildSlice 57 1 #[(0, x)]) {v : Int} (hx : ev x = .int .u8 v) : (execOp ev o).run Tryd.prog w = .ok (.value (.slice (some ⟨w.heap.size, 0, none⟩) 1 1)) (w.alloc (.cells #[.int .u8 v] 5)) := by
  unfold execOp
  simp [ho, hx, run_bs57 v w, Result.andThen]
theorem ex_str1 {ev : Operand → Value} {o : Oper} {w : World} (x : Operand) (ho : o.op = .convert 57 9 x) {p : Nat} {b : UInt8} {tq : TypeId} {fr : Nat × Nat} (hx : ev x = .slice (some ⟨p, 0, none⟩) 1 1) (hp : w.heap[p]? = some (.cells #[.int .u8 (b.toNat : Int)] tq fr)) :
    (execOp ev o).run Tryd.prog w = .ok (.value (.string ⟨#[b]⟩)) w := by
  have := run_convert_bytes_back (P := Tryd.prog) w 57 9 5 ⟨p, 0, none⟩ 1 [b] u57 u5b u9 (fun j hj => by
    have hj0 : j = 0 := by simp at hj; exact hj
    subst hj0
    rw [show (Addr.add ⟨p, 0, none⟩ 0) = ⟨p, 0, none⟩ by rw [Addr.add_mid], cell_of_row _ _ _ _ _ _ hp]
    rfl)
  unfold execOp
  simp only [List.length_cons, List.length_nil] at this
  simp [ho, hx, this, Result.andThen]
theorem dig_byte {n : Nat} (h : n < 10) : ∃ b : UInt8, b = UInt8.ofNat (48 + n) ∧ IntKind.u8.wrap (48 + (n : Int)) = (b.toNat : Int) := ⟨_, rfl, by
  have : (UInt8.ofNat (48 + n)).toNat = 48 + n := by simp; omega
  rw [this]
  have h2 : ∀ m : Nat, m < 10 → IntKind.u8.wrap (48 + (m : Int)) = ((48 + m : Nat) : Int) := by decide
  exact h2 n h⟩
set_option maxHeartbeats 2000000 in
set_option maxRecDepth 100000 in
theorem Number1 (n : Nat) (hn : n < 10) (w : World) : Calls Tryd.prog 85 #[.int .i64 (n : Int)] w fun e w' => e = .returned (.string ⟨#[UInt8.ofNat (48 + n)]⟩) ∧ Below w.heap.size w w' := by
  have h1 : (n : Int) < 10 := by omega
  have hwr : IntKind.i64.wrap (48 + (n : Int)) = 48 + (n : Int) := IntWalk.i64_in _ (by omega)
  obtain ⟨b, hbb, hw8⟩ := dig_byte hn
  rw [← hbb]
  clear hbb
  have hb := Below.refl w.heap.size w
  go_enter Tryd.func85, Tryd.ntmps85
  go_upto_region 2 with (fail)
  apply wp_region_lit
  (with_reducible refine wl_k ?_ ?_); exact rfl; intro K hK; go_simp; refine hK _ ?_; clear hK K
  (with_reducible refine wl_k ?_ ?_); exact rfl; intro K hK; go_simp; refine hK _ ?_; clear hK K
  (with_reducible refine wl_k ?_ ?_); exact rfl; intro K hK; go_simp; refine hK _ ?_; clear hK K
  refine wl_w rfl (ex_bs57 _ rfl rfl) ?_
  simp only [put_lit, List.set_cons_zero, List.set_cons_succ]
  refine wl_val rfl (ex_str1 _ rfl rfl (ha_new rfl)) ?_
  simp only [put_lit, List.set_cons_zero, List.set_cons_succ]
  replace hb := hb.alloc (Nat.le_refl _) (.cells #[.int .u8 (b.toNat : Int)] 5)
  (with_reducible refine wl_k ?_ ?_); exact rfl; intro K hK; go_simp; refine hK _ ?_; clear hK K
  go_wp2_with fail
  go_ret
  exact ⟨rfl, hb⟩
set_option maxHeartbeats 2000000 in
set_option maxRecDepth 100000 in
theorem Number2 (n : Nat) (h10 : 10 ≤ n) (hn : n < 100) (w : World) : Calls Tryd.prog 85 #[.int .i64 (n : Int)] w fun e w' => e = .returned (.string ⟨#[UInt8.ofNat (48 + n / 10), UInt8.ofNat (48 + n % 10)]⟩) ∧ Below w.heap.size w w' := by
  have h1 : ¬ (n : Int) < 10 := by omega
  have HC := Lib.hid fun w' => Number1 (n / 10) (by omega) w'
  obtain ⟨a, ha, -⟩ := dig_byte (show n / 10 < 10 by omega)
  obtain ⟨b, hbb, hw8⟩ := dig_byte (show n % 10 < 10 by omega)
  rw [← ha] at HC ⊢
  rw [← hbb]
  obtain ⟨q, hq0⟩ : ∃ q, q = n / 10 := ⟨_, rfl⟩
  obtain ⟨r, hr0⟩ : ∃ r, r = n % 10 := ⟨_, rfl⟩
  rw [← hq0] at HC
  rw [← hr0] at hw8
  have hq : IntKind.i64.wrap ((n : Int) / 10) = (q : Int) := by rw [IntWalk.i64_in _ (by omega)]; omega
  have hr : IntKind.i64.wrap ((n : Int) % 10) = (r : Int) := by rw [IntWalk.i64_in _ (by omega)]; omega
  have hr2 : (n : Int).tmod 10 = (r : Int) := by rw [show (n : Int).tmod 10 = ((n % 10 : Nat) : Int) from rfl, hr0]
  have hwr : IntKind.i64.wrap (48 + (r : Int)) = 48 + (r : Int) := IntWalk.i64_in _ (by omega)
  clear ha hbb hq0 hr0
  go_enter Tryd.func85, Tryd.ntmps85
  go_upto_region 3 with (fail)
  refine wp_region_held_drew (S := Below w.heap.size w) mixed ((Below.refl _ w).drew) (fun hS => ?_)
  refine ha_k (i := 0) rfl (by kernel_rfl) (by kernel_rfl) (by kernel_rfl) (fun _ _ _ _ h => h) hS rfl (fun K hK => ?_); go_simp; refine hK _ ?_; clear hK K; try simp only [put_lit, List.set_cons_zero, List.set_cons_succ]
  refine ha_k (i := 1) rfl (by kernel_rfl) (by kernel_rfl) (by kernel_rfl) (fun _ _ _ _ h => h) hS rfl (fun K hK => ?_); go_simp; refine hK _ ?_; clear hK K; try simp only [put_lit, List.set_cons_zero, List.set_cons_succ]
  refine ha_k (i := 3) rfl (by kernel_rfl) (by kernel_rfl) (by kernel_rfl) (fun _ _ _ _ h => h) hS rfl (fun K hK => ?_); go_simp; refine hK _ ?_; clear hK K; try simp only [put_lit, List.set_cons_zero, List.set_cons_succ]
  refine ha_k (i := 4) rfl (by kernel_rfl) (by kernel_rfl) (by kernel_rfl) (fun _ _ _ _ h => h) hS rfl (fun K hK => ?_); go_simp; refine hK _ ?_; clear hK K; try simp only [put_lit, List.set_cons_zero, List.set_cons_succ]
  refine ha_k (i := 5) rfl (by kernel_rfl) (by kernel_rfl) (by kernel_rfl) (fun _ _ _ _ h => h) hS rfl (fun K hK => ?_); go_simp; refine hK _ ?_; clear hK K; try simp only [put_lit, List.set_cons_zero, List.set_cons_succ]
  refine ha_k (i := 6) rfl (by kernel_rfl) (by kernel_rfl) (by kernel_rfl) (fun _ _ _ _ h => h) hS rfl (fun K hK => ?_); go_simp; refine hK _ ?_; clear hK K; try simp only [put_lit, List.set_cons_zero, List.set_cons_succ]
  clear hq hr hr2 hwr hw8
  refine ha_two (i := 2) (j := 7) (by kernel_rfl) ?_ ?_
  · refine sh_call (i := 2) rfl rfl (fun K hK => ?_)
    go_simp; refine ⟨_, _, ⟨rfl, rfl⟩, hK _ _ ⟨_, HC.out _, ?_⟩⟩; clear hK K; rintro e w2 ⟨rfl, hb2⟩; refine ⟨_, rfl, (hS.trans (hb2.mono hS.size)), ?_⟩
    replace hS := hS.trans (hb2.mono hS.size)
    clear hb2
    try simp only [List.getElem_toArray, List.getElem_cons_succ, List.getElem_cons_zero, put_lit, List.set_cons_zero, List.set_cons_succ]
    have hS2 := hS.alloc hS.size (.cells #[.int .u8 (b.toNat : Int)] 5)
    refine ha_do (i := 7) (by kernel_rfl) rfl rfl (ex_bs57 _ rfl rfl) hS2 ?_
    try simp only [List.getElem_toArray, List.getElem_cons_succ, List.getElem_cons_zero, put_lit, List.set_cons_zero, List.set_cons_succ]
    refine ha_do (i := 8) (by kernel_rfl) rfl rfl (ex_str1 _ rfl rfl (ha_new rfl)) hS2 ?_
    try simp only [List.getElem_toArray, List.getElem_cons_succ, List.getElem_cons_zero, put_lit, List.set_cons_zero, List.set_cons_succ]
    clear hS
    have hS := hS2
    have hcat : ¬ (9223372036854775807 : Nat) < 1 + 1 := by omega
    refine ha_k (i := 9) rfl (by kernel_rfl) (by kernel_rfl) (by kernel_rfl) (fun _ _ _ _ h => h) hS rfl (fun K hK => ?_); go_simp; refine hK _ ?_; clear hK K; try simp only [put_lit, List.set_cons_zero, List.set_cons_succ]
    clear hcat
    refine ha_k (i := 10) rfl (by kernel_rfl) (by kernel_rfl) (by kernel_rfl) (fun _ _ _ _ h => h) hS rfl (fun K hK => ?_); go_simp; refine hK _ ?_; clear hK K; try simp only [put_lit, List.set_cons_zero, List.set_cons_succ]
    clear HC
    refine wpAnyH_done (by kernel_rfl) ?_ _
    go_wp2_with fail
    go_ret
    exact ⟨rfl, hS⟩
  · have hS2 := hS.alloc hS.size (.cells #[.int .u8 (b.toNat : Int)] 5)
    refine sh_do (i := 7) rfl rfl (ex_bs57 _ rfl rfl) hS2 ?_
    try simp only [List.getElem_toArray, List.getElem_cons_succ, List.getElem_cons_zero, put_lit, List.set_cons_zero, List.set_cons_succ]
    refine ha_two (i := 2) (j := 8) (by kernel_rfl) ?_ ?_
    · refine sh_call (i := 2) rfl rfl (fun K hK => ?_)
      go_simp; refine ⟨_, _, ⟨rfl, rfl⟩, hK _ _ ⟨_, HC.out _, ?_⟩⟩; clear hK K; rintro e w2 ⟨rfl, hb2⟩
      have hS3 := hS2.trans (hb2.mono hS2.size)
      refine ⟨_, rfl, hS3, ?_⟩
      try simp only [List.getElem_toArray, List.getElem_cons_succ, List.getElem_cons_zero, put_lit, List.set_cons_zero, List.set_cons_succ]
      refine ha_do (i := 8) (by kernel_rfl) rfl rfl (ex_str1 _ rfl rfl (below_look hb2 (ha_new rfl))) hS3 ?_
      try simp only [List.getElem_toArray, List.getElem_cons_succ, List.getElem_cons_zero, put_lit, List.set_cons_zero, List.set_cons_succ]
      clear hS hS2 hb2
      have hS := hS3
      have hcat : ¬ (9223372036854775807 : Nat) < 1 + 1 := by omega
      refine ha_k (i := 9) rfl (by kernel_rfl) (by kernel_rfl) (by kernel_rfl) (fun _ _ _ _ h => h) hS rfl (fun K hK => ?_); go_simp; refine hK _ ?_; clear hK K; try simp only [put_lit, List.set_cons_zero, List.set_cons_succ]
      clear hcat
      refine ha_k (i := 10) rfl (by kernel_rfl) (by kernel_rfl) (by kernel_rfl) (fun _ _ _ _ h => h) hS rfl (fun K hK => ?_); go_simp; refine hK _ ?_; clear hK K; try simp only [put_lit, List.set_cons_zero, List.set_cons_succ]
      clear HC
      refine wpAnyH_done (by kernel_rfl) ?_ _
      go_wp2_with fail
      go_ret
      exact ⟨rfl, hS⟩
    · refine sh_do (i := 8) rfl rfl (ex_str1 _ rfl rfl (ha_new rfl)) hS2 ?_
      try simp only [List.getElem_toArray, List.getElem_cons_succ, List.getElem_cons_zero, put_lit, List.set_cons_zero, List.set_cons_succ]
      refine ha_call (i := 2) (by kernel_rfl) rfl rfl (fun K hK => ?_)
      go_simp; refine ⟨_, _, ⟨rfl, rfl⟩, hK _ _ ⟨_, HC.out _, ?_⟩⟩; clear hK K; rintro e w2 ⟨rfl, hb2⟩
      have hS3 := hS2.trans (hb2.mono hS2.size)
      refine ⟨_, rfl, hS3, ?_⟩
      try simp only [List.getElem_toArray, List.getElem_cons_succ, List.getElem_cons_zero, put_lit, List.set_cons_zero, List.set_cons_succ]
      clear hS hS2 hb2
      have hS := hS3
      have hcat : ¬ (9223372036854775807 : Nat) < 1 + 1 := by omega
      refine ha_k (i := 9) rfl (by kernel_rfl) (by kernel_rfl) (by kernel_rfl) (fun _ _ _ _ h => h) hS rfl (fun K hK => ?_); go_simp; refine hK _ ?_; clear hK K; try simp only [put_lit, List.set_cons_zero, List.set_cons_succ]
      clear hcat
      refine ha_k (i := 10) rfl (by kernel_rfl) (by kernel_rfl) (by kernel_rfl) (fun _ _ _ _ h => h) hS rfl (fun K hK => ?_); go_simp; refine hK _ ?_; clear hK K; try simp only [put_lit, List.set_cons_zero, List.set_cons_succ]
      clear HC
      refine wpAnyH_done (by kernel_rfl) ?_ _
      go_wp2_with fail
      go_ret
      exact ⟨rfl, hS⟩
theorem Number_any (n : Nat) (hn : n < 100) (w : World) : Calls Tryd.prog 85 #[.int .i64 (n : Int)] w fun e w' => e = .returned (.string ⟨(Lib.decDigits n).toArray⟩) ∧ Below w.heap.size w w' := by
  rw [Lib.decDigits]
  by_cases h : n < 10
  · rw [dif_pos h]; exact Number1 n h w
  · rw [dif_neg h, Lib.decDigits, dif_pos (show n / 10 < 10 by omega)]
    exact Number2 n (by omega) hn w
set_option maxHeartbeats 2000000 in
set_option maxRecDepth 100000 in
theorem OpenI_any (t : Ty) (w : World) (D : Nat → Prop) (row : Array Value) (h : TyAt w D t row) :
    Calls Tryd.prog 44 #[.agg row] w fun e w' => e = .returned (.bool (validB true t)) ∧ Below w.heap.size w w' := by
  have HT := Lib.hid h
  obtain ⟨k, s, n, A, l, c, ts, he, rfl, -⟩ := h.parts
  clear h he
  have hb := Below.refl w.heap.size w
  go_enter Tryd.func44, Tryd.ntmps44
  go_upto_region 0 with (fail)
  apply wp_region_lit
  (with_reducible refine wl_box rfl ?_); intro W p hbn hlp hp; replace hb := hb.trans (hbn.mono hb.size); clear hbn; simp only [put_lit, List.set_cons_zero, List.set_cons_succ]
  (with_reducible refine wl_k ?_ ?_); exact rfl; intro K hK; go_simp; refine hK _ ?_; clear hK K
  have HC := Lib.hid (TypeNodes_any 40 (by omega) t W D _ (HT.out.old hb))
  go_upto_region 1 with (fail)
  by_cases hn : t.nodes ≤ 40
  · have e1 : ((min t.nodes (40 + 1) : Nat) : Int) ≤ 40 := by omega
    have HF : Hid (validB true t = t.all (nodeB true)) := Lib.hid (by unfold validB; rw [decide_eq_true hn]; rfl)
    clear hn
    apply wp_region_lit
    (first | ((with_reducible apply wl_oneG); exact rfl; exact rfl; first | exact f0 (by with_reducible assumption) | exact f1 (by with_reducible assumption) | exact f2 (by with_reducible assumption) | exact f3 (by with_reducible assumption) | with_reducible assumption | exact g22 (by with_reducible assumption) | exact g25 (by with_reducible assumption)) | ((with_reducible apply wl_rowG); exact rfl; exact rfl; first | with_reducible assumption | exact RowK.now (by with_reducible assumption) | exact f4 (by with_reducible assumption)))
    (with_reducible refine wl_ck ?_ ?_); exact rfl; intro K hK; go_simp; refine ⟨_, _, ⟨rfl, rfl⟩, hK _ _ ⟨_, HC.out, ?_⟩⟩; clear hK K; rintro e w7 ⟨rfl, hb7⟩; refine ⟨_, rfl, ?_⟩; simp only [put_lit, List.set_cons_zero, List.set_cons_succ]
    replace hp := below_look hb7 hp; replace hb := hb.trans (hb7.mono hb.size); clear hb7
    clear HC
    have HC := Lib.hid (all_any true t w7 D _ (HT.out.old hb))
    (with_reducible refine wl_k ?_ ?_); exact rfl; intro K hK; go_simp; refine hK _ ?_; clear hK K
    (with_reducible refine wl_k ?_ ?_); exact rfl; intro K hK; go_simp; refine hK _ ?_; clear hK K
    (first | ((with_reducible apply wl_oneG); exact rfl; exact rfl; first | exact f0 (by with_reducible assumption) | exact f1 (by with_reducible assumption) | exact f2 (by with_reducible assumption) | exact f3 (by with_reducible assumption) | with_reducible assumption | exact g22 (by with_reducible assumption) | exact g25 (by with_reducible assumption)) | ((with_reducible apply wl_rowG); exact rfl; exact rfl; first | with_reducible assumption | exact RowK.now (by with_reducible assumption) | exact f4 (by with_reducible assumption)))
    (with_reducible refine wl_ck ?_ ?_); exact rfl; intro K hK; go_simp; refine ⟨_, _, ⟨rfl, rfl⟩, hK _ _ ⟨_, HC.out, ?_⟩⟩; clear hK K; rintro e w8 ⟨rfl, hb8⟩; refine ⟨_, rfl, ?_⟩; simp only [put_lit, List.set_cons_zero, List.set_cons_succ]
    (with_reducible refine wl_k ?_ ?_); exact rfl; intro K hK; go_simp; refine hK _ ?_; clear hK K
    (with_reducible refine wl_k ?_ ?_); exact rfl; intro K hK; go_simp; refine hK _ ?_; clear hK K
    replace hp := below_look hb8 hp; replace hb := hb.trans (hb8.mono hb.size); clear hb8
    clear HC hp
    go_wp2_with fail
    go_ret
    exact ⟨by rw [HF.out]; rfl, hb⟩
  · have e1 : ¬ ((min t.nodes (40 + 1) : Nat) : Int) ≤ 40 := by omega
    have HF : Hid (validB true t = false) := Lib.hid (by unfold validB; rw [decide_eq_false hn]; rfl)
    clear hn
    apply wp_region_lit
    (first | ((with_reducible apply wl_oneG); exact rfl; exact rfl; first | exact f0 (by with_reducible assumption) | exact f1 (by with_reducible assumption) | exact f2 (by with_reducible assumption) | exact f3 (by with_reducible assumption) | with_reducible assumption | exact g22 (by with_reducible assumption) | exact g25 (by with_reducible assumption)) | ((with_reducible apply wl_rowG); exact rfl; exact rfl; first | with_reducible assumption | exact RowK.now (by with_reducible assumption) | exact f4 (by with_reducible assumption)))
    (with_reducible refine wl_ck ?_ ?_); exact rfl; intro K hK; go_simp; refine ⟨_, _, ⟨rfl, rfl⟩, hK _ _ ⟨_, HC.out, ?_⟩⟩; clear hK K; rintro e w7 ⟨rfl, hb7⟩; refine ⟨_, rfl, ?_⟩; simp only [put_lit, List.set_cons_zero, List.set_cons_succ]
    replace hp := below_look hb7 hp; replace hb := hb.trans (hb7.mono hb.size); clear hb7
    clear HC
    (with_reducible refine wl_k ?_ ?_); exact rfl; intro K hK; go_simp; refine hK _ ?_; clear hK K
    (with_reducible refine wl_k ?_ ?_); exact rfl; intro K hK; go_simp; refine hK _ ?_; clear hK K
    (first | ((with_reducible refine wl_skipU ?_ ?_ ?_); exact rfl; exact rfl) | ((with_reducible refine wl_skip ?_ ?_); exact rfl; simp only [put_lit, List.set_cons_zero, List.set_cons_succ]))
    (first | ((with_reducible refine wl_skipU ?_ ?_ ?_); exact rfl; exact rfl) | ((with_reducible refine wl_skip ?_ ?_); exact rfl; simp only [put_lit, List.set_cons_zero, List.set_cons_succ]))
    (with_reducible refine wl_k ?_ ?_); exact rfl; intro K hK; go_simp; refine hK _ ?_; clear hK K
    (with_reducible refine wl_k ?_ ?_); exact rfl; intro K hK; go_simp; refine hK _ ?_; clear hK K
    clear hp
    go_wp2_with fail
    go_ret
    exact ⟨by rw [HF.out]; rfl, hb⟩
end Go.Proofs.YtokmaehefenpmaaDoor
namespace Go.Proofs.YtokmaehefenpmaaDoor
open Go.RowKit Go.Proofs.YtokmaehefenpmaaDoor.Nm
set_option linter.unusedSimpArgs false
theorem str_eq {a : ByteArray} {l : List UInt8} (h : a.data.toList = l) : a = ⟨l.toArray⟩ := by
  cases a; subst h; rfl
theorem str_cat (a b : ByteArray) : (a ++ b).data.toList = a.data.toList ++ b.data.toList := by simp
theorem str_size (a : ByteArray) : a.size = a.data.toList.length := rfl
def SpelC (t : Ty) : Prop := ∀ (w : World) (D : Nat → Prop) (row : Array Value), TyAt w D t row → ∃ x : ByteArray, x.data.toList = txtT t ∧ Calls Tryd.prog 62 #[.agg row] w fun e w' => e = .returned (.string x) ∧ Below w.heap.size w w'
set_option maxHeartbeats 4000000 in
set_option maxRecDepth 100000 in
theorem listI_any (ts : List Ty) (hC : ∀ t, t ∈ ts → SpelC t) (hlen : (txtSep true ts).length ≤ 1000000000) (w : World) (D : Nat → Prop) (A : Option Addr) (l c : Nat) (h : TysAt w D ts A l c) :
    ∃ x : ByteArray, x.data.toList = txtSep true ts ∧ Calls Tryd.prog 84 #[.slice A l c] w fun e w' => e = .returned (.string x) ∧ Below w.heap.size w w' := by
  refine ⟨⟨(txtSep true ts).toArray⟩, by simp, ?_⟩
  have HT := Lib.hid h
  have HL := Lib.hid h.len
  have hcm := h.cap
  have hmx := h.max
  unfold maxLen at hmx
  have HI := Lib.hid hC
  have HLN := Lib.hid hlen
  clear h hC hlen
  have hb := Below.refl w.heap.size w
  go_enter Tryd.func84, Tryd.ntmps84
  go_wp2_with fail
  go_loopw [3, 4] (fun v i wr => ∃ (j : Nat) (acc : ByteArray), j ≤ l ∧ i = .int .i64 (j : Int) ∧ v = .string acc ∧ Hid (acc.data.toList = sepText txtT true (ts.take j)) ∧ Below w.heap.size w wr) (fun _ i _ => l - (intOf i).toNat)
  case atStart => exact ⟨0, ⟨#[]⟩, by omega, rfl, rfl, Lib.hid (by simp [sepText]), hb⟩
  case round =>
    clear hb
    obtain ⟨j, acc, hj, rfl, rfl, HA, hb⟩ := hrel
    by_cases hlt : j < l
    · have hltI : (j : Int) < (l : Int) := by omega
      obtain ⟨b, off, t, row, rfl, -, ht, -⟩ := HT.out.get hlt
      obtain ⟨row, hrow, hta⟩ := (HT.out.old hb).rowK ht
      have HST := Lib.hid (sep_step txtT true ts j t ht)
      obtain ⟨x, hx, hC⟩ := HI.out t (List.mem_of_getElem? ht) wr D row hta
      have HX := Lib.hid hx
      have HC := Lib.hid hC
      have hs2 := sep_take txtT true ts (j + 1)
      rw [HST.out, ← sep_txt ts true] at hs2
      have hs3 := HLN.out
      have HSZ : Hid (acc.size + 2 + x.size ≤ 1000000010) := Lib.hid (by
        simp only [List.length_append] at hs2
        rw [str_size, str_size, HX.out, HA.out]; omega)
      clear hx hC hta hs2 hs3 ht
      by_cases hj0 : j = 0
      · have hj1 : ¬ (j : Int) > 0 := by omega
        have HEQ : Hid ((acc ++ x).data.toList = sepText txtT true (ts.take (j + 1))) := Lib.hid (by rw [HST.out, str_cat, HA.out, HX.out, hj0]; simp)
        have hcat : ¬ 9223372036854775807 < acc.size + x.size := by have := HSZ.out; omega
        clear hj0 HST
        go_upto_region 7 with (fail)
        apply wp_region_lit
        (with_reducible refine wl_k ?_ ?_); exact rfl; intro K hK; go_simp; refine hK _ ?_; clear hK K
        (with_reducible refine wl_k ?_ ?_); exact rfl; intro K hK; go_simp; refine hK _ ?_; clear hK K
        (with_reducible refine wl_k ?_ ?_); exact rfl; intro K hK; go_simp; refine hK _ ?_; clear hK K
        (with_reducible refine wl_k ?_ ?_); exact rfl; intro K hK; go_simp; refine hK _ ?_; clear hK K
        (first | ((with_reducible apply wl_oneG); exact rfl; exact rfl; first | exact f0 (by with_reducible assumption) | exact f1 (by with_reducible assumption) | exact f2 (by with_reducible assumption) | exact f3 (by with_reducible assumption) | with_reducible assumption | exact g22 (by with_reducible assumption) | exact g25 (by with_reducible assumption)) | ((with_reducible apply wl_rowG); exact rfl; exact rfl; first | with_reducible assumption | exact RowK.now (by with_reducible assumption) | exact f4 (by with_reducible assumption)))
        (with_reducible refine wl_ck ?_ ?_); exact rfl; intro K hK; go_simp; refine ⟨_, _, ⟨rfl, rfl⟩, hK _ _ ⟨_, HC.out, ?_⟩⟩; clear hK K; rintro e w7 ⟨rfl, hb7⟩; refine ⟨_, rfl, ?_⟩; simp only [put_lit, List.set_cons_zero, List.set_cons_succ]
        (with_reducible refine wl_k ?_ ?_); exact rfl; intro K hK; go_simp; refine hK _ ?_; clear hK K
        (with_reducible refine wl_k ?_ ?_); exact rfl; intro K hK; go_simp; refine hK _ ?_; clear hK K
        replace hb := hb.trans (hb7.mono hb.size)
        clear hrow hb7 HC hcat
        go_wp2_with fail
        go_roundw
        case rel => exact ⟨j + 1, _, by omega, by go_num, rfl, HEQ, hb⟩
        case measure => simp [intOf]; omega
      · have hj1 : (j : Int) > 0 := by omega
        have hj2 : 0 < j := by omega
        have HEQ : Hid (((acc ++ ⟨#[44, 32]⟩) ++ x).data.toList = sepText txtT true (ts.take (j + 1))) := Lib.hid (by
          rw [HST.out, str_cat, str_cat, HA.out, HX.out, show (j == 0) = false by simp [hj0]]; simp)
        have hcat0 : ¬ 9223372036854775807 < acc.size + 2 := by have := HSZ.out; omega
        have hcat : ¬ 9223372036854775807 < acc.size + 2 + x.size := by have := HSZ.out; omega
        clear hj0 HST
        go_upto_region 7 with (fail)
        apply wp_region_lit
        (with_reducible refine wl_k ?_ ?_); exact rfl; intro K hK; go_simp; refine hK _ ?_; clear hK K
        (with_reducible refine wl_k ?_ ?_); exact rfl; intro K hK; go_simp; refine hK _ ?_; clear hK K
        (with_reducible refine wl_k ?_ ?_); exact rfl; intro K hK; go_simp; refine hK _ ?_; clear hK K
        (with_reducible refine wl_k ?_ ?_); exact rfl; intro K hK; go_simp; refine hK _ ?_; clear hK K
        (first | ((with_reducible apply wl_oneG); exact rfl; exact rfl; first | exact f0 (by with_reducible assumption) | exact f1 (by with_reducible assumption) | exact f2 (by with_reducible assumption) | exact f3 (by with_reducible assumption) | with_reducible assumption | exact g22 (by with_reducible assumption) | exact g25 (by with_reducible assumption)) | ((with_reducible apply wl_rowG); exact rfl; exact rfl; first | with_reducible assumption | exact RowK.now (by with_reducible assumption) | exact f4 (by with_reducible assumption)))
        (with_reducible refine wl_ck ?_ ?_); exact rfl; intro K hK; go_simp; refine ⟨_, _, ⟨rfl, rfl⟩, hK _ _ ⟨_, HC.out, ?_⟩⟩; clear hK K; rintro e w7 ⟨rfl, hb7⟩; refine ⟨_, rfl, ?_⟩; simp only [put_lit, List.set_cons_zero, List.set_cons_succ]
        (with_reducible refine wl_k ?_ ?_); exact rfl; intro K hK; go_simp; refine hK _ ?_; clear hK K
        (with_reducible refine wl_k ?_ ?_); exact rfl; intro K hK; go_simp; refine hK _ ?_; clear hK K
        replace hb := hb.trans (hb7.mono hb.size)
        clear hrow hb7 HC hcat hcat0
        go_wp2_with fail
        go_roundw
        case rel => exact ⟨j + 1, _, by omega, by go_num, rfl, HEQ, hb⟩
        case measure => simp [intOf]; omega
    · have hltI : ¬ (j : Int) < (l : Int) := by omega
      have HF : Hid (acc = ⟨(txtSep true ts).toArray⟩) := Lib.hid (str_eq (by rw [HA.out, List.take_of_length_le (by rw [HL.out]; omega), sep_txt]))
      go_wp2_with fail
      go_ret
      exact ⟨by rw [← HF.out]; rfl, hb⟩
end Go.Proofs.YtokmaehefenpmaaDoor
