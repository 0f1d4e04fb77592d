/- Parse of the program. What the rows that list strconv's two errors give the walk. Format of the document. What the document's Parse does step by step, plainly. -/
import Derived.Test.YtclainfdeghgnaaGreatDoorPZ7
import Derived.Stop.LaidErr
import Derived.MakeChecks
namespace Go.Proofs.YtclainfdeghgnaaGreatDoor
open Go.RowKit Go.Proofs.YtclainfdeghgnaaGreatDoor.Nm
set_option linter.unusedSimpArgs false
/-- What the walk needs of the library's variables. -/
structure Env (w : World) : Prop where
  tab : TabW w
  mx : ∃ m, w.cell? ⟨0, 0, none⟩ = some (.int .i64 m)
  es : ∃ ev, w.cell? ⟨1, 0, none⟩ = some ev ∧ (ev = .nilIface ∨ ∃ te pe, ev = .iface te pe)
  er : ∃ ev, w.cell? ⟨2, 0, none⟩ = some ev ∧ (ev = .nilIface ∨ ∃ te pe, ev = .iface te pe)
theorem Env.old {w w' : World} (h : Env w) (hb : Below w.heap.size w w') : Env w' := by
  have key : ∀ (q : Nat) v, w.cell? ⟨q, 0, none⟩ = some v → w'.cell? ⟨q, 0, none⟩ = some v := fun q v e => below_cell hb e
  obtain ⟨m, hm⟩ := h.mx
  obtain ⟨a, ha, ha2⟩ := h.es
  obtain ⟨b, hb1, hb2⟩ := h.er
  exact ⟨h.tab.old hb, ⟨m, key _ _ hm⟩, ⟨a, key _ _ ha, ha2⟩, ⟨b, key _ _ hb1, hb2⟩⟩
theorem cut_len (s sep : List UInt8) : (Lib.cut s sep).1.length + (Lib.cut s sep).2.1.length ≤ s.length := by
  unfold Lib.cut
  split
  · simp; omega
  · simp
/-- What Parse gives. -/
def prV (t : List UInt8) : Value := match parseP t with
  | some (u, k) => .tuple #[.agg (dc u (k : Int)), .int .i64 0]
  | none => .tuple #[.agg (dc 0 0), .int .i64 4]
theorem Cut_any (s : ByteArray) (hs : s.size < 4294967281) (w : World) (he : Env w) : Calls Tryz.prog 10 #[.string s, .string ⟨#[46]⟩] w fun e w' => e = .returned (.tuple #[.string ⟨(Lib.cut s.data.toList [46]).1.toArray⟩, .string ⟨(Lib.cut s.data.toList [46]).2.1.toArray⟩, .bool (Lib.cut s.data.toList [46]).2.2]) ∧ Below w.heap.size w w' := by
  obtain ⟨m, hm⟩ := he.mx
  refine (Tryz.strings_Cut s ⟨#[46]⟩ m w hs hm).mono fun e w' ⟨h, n, e2⟩ => ⟨h, ?_⟩
  rw [e2]
  exact below_drewN (Below.refl _ w) n
theorem Atoi_any (s : ByteArray) (hs : s.size < 4294967281) (w : World) (he : Env w) : Calls Tryz.prog 11 #[.string s] w fun e w' => (∃ v ev, e = .returned (.tuple #[.int .i64 v, ev]) ∧ ((Lib.atoiAll s.data.toList = .ok v ∧ ev = .nilIface) ∨ ((∀ v, Lib.atoiAll s.data.toList ≠ .ok v) ∧ ∃ N, ev = .iface 106 (.pointer (some ⟨N, 0, none⟩))))) ∧ Below w.heap.size w w' := by
  cases h : Lib.atoiAll s.data.toList
  case ok v =>
    refine (Tryz.strconv_Atoi_ok s (by omega) v h w).mono fun e w' ⟨h1, h2⟩ => ⟨⟨v, _, h1, .inl ⟨rfl, rfl⟩⟩, ?_⟩
    rcases h2 with rfl | ⟨t, rfl⟩
    · exact Below.refl _ _
    · exact Lib.bytesWorld_below _ _ _
  case range =>
    obtain ⟨ev, h1, h2⟩ := he.er
    refine (Tryz.strconv_Atoi_range s (by omega) h ev w h1 h2).mono fun e w' ⟨N, h1, _, _, hb⟩ => ⟨⟨_, _, h1, .inr ⟨fun v e => (by cases e), N, rfl⟩⟩, hb⟩
  obtain ⟨ev, h1, h2⟩ := he.es
  refine (Tryz.strconv_Atoi_syntax s (by omega) h ev w h1 h2).mono fun e w' ⟨N, h1, _, _, hb⟩ => ⟨⟨_, _, h1, .inr ⟨fun v e => (by cases e), N, rfl⟩⟩, hb⟩
theorem prV_no {t : List UInt8} (h : parseP t = none) : prV t = .tuple #[.agg (dc 0 0), .int .i64 4] := by unfold prV; rw [h]
theorem prV_yes {t : List UInt8} {u : Int} {k : Nat} (h : parseP t = some (u, k)) : prV t = .tuple #[.agg (dc u (k : Int)), .int .i64 0] := by unfold prV; rw [h]
theorem ret_no {t : List UInt8} (h : parseP t = none) : Ending.returned (.tuple #[.agg (dc 0 0), .int .i64 4]) = Ending.returned (prV t) := by rw [prV_no h]
theorem ret_yes {t : List UInt8} {u : Int} {k : Nat} (h : parseP t = some (u, k)) : Ending.returned (.tuple #[.agg (dc u (k : Int)), .int .i64 0]) = Ending.returned (prV t) := by rw [prV_yes h]
theorem pp_err {t : List UInt8} (h : ∀ v, Lib.atoiAll ((Lib.cut t [46]).1 ++ (Lib.cut t [46]).2.1) ≠ .ok v) : parseP t = none := by
  unfold parseP
  split
  · rename_i n e; exact absurd e (h n)
  · rfl
theorem pp_dot {t : List UInt8} (h : (Lib.cut t [46]).2.2 = true ∧ (Lib.cut t [46]).2.1 = []) : parseP t = none := by
  unfold parseP
  split
  · rw [if_pos h]
  · rfl
theorem pp_no {t : List UInt8} {n : Int} (h : Lib.atoiAll ((Lib.cut t [46]).1 ++ (Lib.cut t [46]).2.1) = .ok n) (h2 : ¬ (okD n (Lib.cut t [46]).2.1.length = true ∧ fmtL n (Lib.cut t [46]).2.1.length = t)) : parseP t = none := by
  unfold parseP
  split
  · rename_i m e
    have : n = m := by rw [h] at e; cases e; rfl
    subst this
    split <;> rfl
  · rfl
theorem pp_yes {t : List UInt8} {n : Int} (h : Lib.atoiAll ((Lib.cut t [46]).1 ++ (Lib.cut t [46]).2.1) = .ok n) (h1 : ¬ ((Lib.cut t [46]).2.2 = true ∧ (Lib.cut t [46]).2.1 = [])) (h2 : okD n (Lib.cut t [46]).2.1.length = true ∧ fmtL n (Lib.cut t [46]).2.1.length = t) : parseP t = some (n, (Lib.cut t [46]).2.1.length) := by
  unfold parseP
  split
  · rename_i m e
    have : n = m := by rw [h] at e; cases e; rfl
    subst this
    split
    · rename_i h3; exact absurd h3 h1
    · rfl
  · rename_i e; exact absurd h (e n)
theorem bytes_ext {a b : ByteArray} (h : a.data.toList = b.data.toList) : a = b := by
  cases a; cases b; congr 1; exact Array.toList_inj.1 h
theorem str_ne {a b : ByteArray} (h : ¬ a = b) : (a.toList == b.toList) = false := by
  rw [beq_eq_false_iff_ne]
  exact fun e => h (bytes_ext (by rw [← ByteArray.toList_eq, ← ByteArray.toList_eq]; exact e))
theorem str_empty {b : ByteArray} (h : b.toList.isEmpty = true) : b = ⟨#[]⟩ := bytes_ext (by rw [← ByteArray.toList_eq]; simpa using h)
set_option maxHeartbeats 4000000 in
set_option maxRecDepth 100000 in
theorem Parse_any (s : ByteArray) (hs : s.size < 4294967281) (w : World) (he : Env w) : Calls Tryz.prog 6 #[.string s] w fun e w' => e = .returned (prV s.data.toList) ∧ Below w.heap.size w w' := by
  have HE := Lib.hid he
  clear he
  have hb := Below.refl w.heap.size w
  obtain ⟨a, ha⟩ : ∃ a : ByteArray, a = ⟨(Lib.cut s.data.toList [46]).1.toArray⟩ := ⟨_, rfl⟩
  obtain ⟨b, hbb⟩ : ∃ b : ByteArray, b = ⟨(Lib.cut s.data.toList [46]).2.1.toArray⟩ := ⟨_, rfl⟩
  obtain ⟨f, hf⟩ : ∃ f, f = (Lib.cut s.data.toList [46]).2.2 := ⟨_, rfl⟩
  have hcut := fun w1 h => Cut_any s hs w1 h
  rw [← ha, ← hbb, ← hf] at hcut
  have HCUT := Lib.hid hcut
  have ea : (Lib.cut s.data.toList [46]).1 = a.data.toList := by rw [ha]
  have eb : (Lib.cut s.data.toList [46]).2.1 = b.data.toList := by rw [hbb]
  have hsz : a.size + b.size ≤ s.size := by
    have := cut_len s.data.toList [46]
    rw [ea, eb] at this
    rw [bsize, bsize, bsize]; exact this
  have HA := Lib.hid ea
  have HB := Lib.hid eb
  have HF := Lib.hid hf
  clear hcut ea eb hf ha hbb
  go_enter Tryz.func6, Tryz.ntmps6
  go_upto_region 0 with (fail)
  apply wp_region_lit
  (with_reducible refine wl_allD ?_); intro W p hbn hlp hp; replace hb := hb.trans (hbn.mono hb.size); clear hbn; simp only [put_lit, List.set_cons_zero, List.set_cons_succ]
  (with_reducible refine wl_k ?_ ?_); exact rfl; intro K hK; go_simp; refine hK _ ?_; clear hK K
  go_upto_region 1 with (fail)
  apply wp_region_lit
  (with_reducible refine wl_k ?_ ?_); exact rfl; intro K hK; go_simp; refine hK _ ?_; clear hK K
  (with_reducible refine wl_ck ?_ ?_); exact rfl; intro K hK; go_simp; refine ⟨_, _, ⟨rfl, rfl⟩, hK _ _ ⟨_, HCUT.out _ (HE.out.old hb), ?_⟩⟩; clear hK K; rintro e w1 ⟨rfl, hb1⟩; refine ⟨_, rfl, ?_⟩; simp only [put_lit, List.set_cons_zero, List.set_cons_succ]
  replace hp := below_look hb1 hp; replace hb := hb.trans (hb1.mono hb.size); clear hb1
  (with_reducible refine wl_k ?_ ?_); exact rfl; intro K hK; go_simp; refine hK _ ?_; clear hK K
  (with_reducible refine wl_k ?_ ?_); exact rfl; intro K hK; go_simp; refine hK _ ?_; clear hK K
  (with_reducible refine wl_k ?_ ?_); exact rfl; intro K hK; go_simp; refine hK _ ?_; clear hK K
  (with_reducible refine wl_k ?_ ?_); exact rfl; intro K hK; go_simp; refine hK _ ?_; clear hK K
  (with_reducible refine wl_k ?_ ?_); exact rfl; intro K hK; go_simp; refine hK _ ?_; clear hK K
  (with_reducible refine wl_k ?_ ?_); exact rfl; intro K hK; go_simp; refine hK _ ?_; clear hK K
  (with_reducible refine wl_k ?_ ?_); exact rfl; intro K hK; go_simp; refine hK _ ?_; clear hK K
  go_upto_region 2 with (fail)
  have hc0 : ¬ 9223372036854775807 < a.size + b.size := by omega
  apply wp_region_lit
  (with_reducible refine wl_k ?_ ?_); exact rfl; intro K hK; go_simp; refine hK _ ?_; clear hK K
  (with_reducible refine wl_k ?_ ?_); exact rfl; intro K hK; go_simp; refine hK _ ?_; clear hK K
  (with_reducible refine wl_k ?_ ?_); exact rfl; intro K hK; go_simp; refine hK _ ?_; clear hK K
  have hat := Atoi_any (a ++ b) (by rw [ByteArray.size_append]; omega) w1 (HE.out.old hb)
  (with_reducible refine wl_ck ?_ ?_); exact rfl; intro K hK; go_simp; refine ⟨_, _, ⟨rfl, rfl⟩, hK _ _ ⟨_, hat, ?_⟩⟩; clear hK K; rintro e w2 ⟨⟨v, ev, rfl, HV⟩, hb1⟩; refine ⟨_, rfl, ?_⟩; simp only [put_lit, List.set_cons_zero, List.set_cons_succ]
  replace hp := below_look hb1 hp; replace hb := hb.trans (hb1.mono hb.size); clear hb1
  clear hat
  (with_reducible refine wl_k ?_ ?_); exact rfl; intro K hK; go_simp; refine hK _ ?_; clear hK K
  (with_reducible refine wl_k ?_ ?_); exact rfl; intro K hK; go_simp; refine hK _ ?_; clear hK K
  (with_reducible refine wl_k ?_ ?_); exact rfl; intro K hK; go_simp; refine hK _ ?_; clear hK K
  (with_reducible refine wl_k ?_ ?_); exact rfl; intro K hK; go_simp; refine hK _ ?_; clear hK K
  (with_reducible refine wl_k ?_ ?_); exact rfl; intro K hK; go_simp; refine hK _ ?_; clear hK K
  have e0 : (a ++ b).data.toList = (Lib.cut s.data.toList [46]).1 ++ (Lib.cut s.data.toList [46]).2.1 := by rw [HA.out, HB.out, ByteArray.data_append, Array.toList_append]
  rw [e0] at HV
  clear e0
  go_upto_region 3 with (fail)
  apply wp_region_lit
  (with_reducible refine wl_k ?_ ?_); exact rfl; intro K hK; go_simp; refine hK _ ?_; clear hK K
  (with_reducible refine wl_k ?_ ?_); exact rfl; intro K hK; go_simp; refine hK _ ?_; clear hK K
  (with_reducible refine wl_k ?_ ?_); exact rfl; intro K hK; go_simp; refine hK _ ?_; clear hK K
  (with_reducible refine wl_k ?_ ?_); exact rfl; intro K hK; go_simp; refine hK _ ?_; clear hK K
  have lthpq := heap_lt hp; (with_reducible refine wl_allD ?_); intro W3 q hbn hlq hq; replace hp := below_look hbn hp; replace hb := hb.trans (hbn.mono hb.size); clear hbn; simp only [put_lit, List.set_cons_zero, List.set_cons_succ]
  have lpq := heap_lt hp
  (with_reducible refine wl_put33 rfl rfl hq ?_); intro W5 hbx5 hkx5 hq5
  replace hb := hbx5 _ _ (by omega) hb
  replace hp := hkx5 _ _ (by omega) hp
  clear hbx5 hkx5 hq
  rcases HV with ⟨HOK, rfl⟩ | ⟨HNO, N, rfl⟩
  · have HOK := Lib.hid HOK
    by_cases hd : f = true ∧ b = ⟨#[]⟩
    · obtain ⟨rfl, rfl⟩ := hd
      have HV := Lib.hid (ret_no (pp_dot ⟨HF.out.symm, HB.out⟩))
      clear HOK
      go_upto_region 4 with (fail)
      apply wp_region_lit
      (with_reducible refine wl_k ?_ ?_); exact rfl; intro K hK; go_simp; refine hK _ ?_; clear hK K
      (with_reducible refine wl_k ?_ ?_); exact rfl; intro K hK; go_simp; refine hK _ ?_; clear hK K
      (with_reducible refine wl_k ?_ ?_); exact rfl; intro K hK; go_simp; refine hK _ ?_; clear hK K
      (with_reducible refine wl_k ?_ ?_); exact rfl; intro K hK; go_simp; refine hK _ ?_; clear hK K
      (with_reducible refine wl_k ?_ ?_); exact rfl; intro K hK; go_simp; refine hK _ ?_; clear hK K
      (with_reducible refine wl_k ?_ ?_); exact rfl; intro K hK; go_simp; refine hK _ ?_; clear hK K
      (with_reducible refine wl_k ?_ ?_); exact rfl; intro K hK; go_simp; refine hK _ ?_; clear hK K
      (with_reducible refine wl_k ?_ ?_); exact rfl; intro K hK; go_simp; refine hK _ ?_; clear hK K
      (with_reducible refine wl_k ?_ ?_); exact rfl; intro K hK; go_simp; refine hK _ ?_; clear hK K
      go_upto_region 5 with (fail)
      apply wp_region_lit
      (with_reducible refine wl_k ?_ ?_); exact rfl; intro K hK; go_simp; refine hK _ ?_; clear hK K
      (with_reducible refine wl_put33 (u := 0) (k := 0) rfl rfl hp ?_); intro W6 hbx6 hkx6 hp6
      replace hb := hbx6 _ _ (by omega) hb
      (with_reducible refine wl_k ?_ ?_); exact rfl; intro K hK; go_simp; refine hK _ ?_; clear hK K
      go_wp2_with fail
      refine bodyPost_ret (res_decErr rfl _ _ p rfl hp6) rfl ⟨?_, hb⟩
      exact HV.out
    · cases f with
      | true =>
        have hbe : b.toList.isEmpty = false := by
          cases hx : b.toList.isEmpty with
          | false => rfl
          | true => exact absurd (str_empty hx) fun e => hd ⟨rfl, e⟩
        go_upto_region 4 with (fail)
        apply wp_region_lit
        (with_reducible refine wl_k ?_ ?_); exact rfl; intro K hK; go_simp; refine hK _ ?_; clear hK K
        (with_reducible refine wl_k ?_ ?_); exact rfl; intro K hK; go_simp; refine hK _ ?_; clear hK K
        (with_reducible refine wl_k ?_ ?_); exact rfl; intro K hK; go_simp; refine hK _ ?_; clear hK K
        (with_reducible refine wl_k ?_ ?_); exact rfl; intro K hK; go_simp; refine hK _ ?_; clear hK K
        (with_reducible refine wl_k ?_ ?_); exact rfl; intro K hK; go_simp; refine hK _ ?_; clear hK K
        (with_reducible refine wl_k ?_ ?_); exact rfl; intro K hK; go_simp; refine hK _ ?_; clear hK K
        (with_reducible refine wl_k ?_ ?_); exact rfl; intro K hK; go_simp; refine hK _ ?_; clear hK K
        (with_reducible refine wl_k ?_ ?_); exact rfl; intro K hK; go_simp; refine hK _ ?_; clear hK K
        (with_reducible refine wl_k ?_ ?_); exact rfl; intro K hK; go_simp; refine hK _ ?_; clear hK K
        go_upto_region 6 with (fail)
        by_cases hok : okD v (b.size : Int) = true
        · obtain ⟨m, hm⟩ : ∃ m : ByteArray, m = ⟨(fmtL v b.size).toArray⟩ := ⟨_, rfl⟩
          have c1 := Format_any v (b.size : Int) W5 (HE.out.old hb).tab
          rw [fm_goodN hok (m := m) (by rw [hm])] at c1
          have HMM := Lib.hid hm
          clear hm
          apply wp_region_lit
          ((with_reducible apply wl_rowG); exact rfl; exact rfl; exact rowDc hq5)
          (with_reducible refine wl_ck ?_ ?_); exact rfl; intro K hK; go_simp; refine ⟨_, _, ⟨rfl, rfl⟩, hK _ _ ⟨_, c1, ?_⟩⟩; clear hK K; rintro e w6 ⟨rfl, hb1⟩; refine ⟨_, rfl, ?_⟩; simp only [put_lit, List.set_cons_zero, List.set_cons_succ]
          replace hp := below_look hb1 hp; replace hq5 := below_look hb1 hq5; replace hb := hb.trans (hb1.mono hb.size); clear hb1
          clear c1
          (with_reducible refine wl_k ?_ ?_); exact rfl; intro K hK; go_simp; refine hK _ ?_; clear hK K
          (with_reducible refine wl_k ?_ ?_); exact rfl; intro K hK; go_simp; refine hK _ ?_; clear hK K
          (with_reducible refine wl_k ?_ ?_); exact rfl; intro K hK; go_simp; refine hK _ ?_; clear hK K
          (with_reducible refine wl_k ?_ ?_); exact rfl; intro K hK; go_simp; refine hK _ ?_; clear hK K
          (with_reducible refine wl_k ?_ ?_); exact rfl; intro K hK; go_simp; refine hK _ ?_; clear hK K
          go_upto_region 7 with (fail)
          by_cases hms : m = s
          · have hyes := ret_yes (pp_yes HOK.out (by rw [← HF.out, HB.out]; exact fun e => hd ⟨e.1, bytes_ext e.2⟩) (by rw [HB.out, ← bsize]; exact ⟨hok, by rw [← hms, HMM.out]⟩))
            rw [HB.out, ← bsize] at hyes
            have HV := Lib.hid hyes
            clear hyes
            subst hms
            apply wp_region_lit
            (with_reducible refine wl_k ?_ ?_); exact rfl; intro K hK; go_simp; refine hK _ ?_; clear hK K
            (with_reducible refine wl_k ?_ ?_); exact rfl; intro K hK; go_simp; refine hK _ ?_; clear hK K
            (with_reducible refine wl_k ?_ ?_); exact rfl; intro K hK; go_simp; refine hK _ ?_; clear hK K
            (with_reducible refine wl_k ?_ ?_); exact rfl; intro K hK; go_simp; refine hK _ ?_; clear hK K
            (with_reducible refine wl_k ?_ ?_); exact rfl; intro K hK; go_simp; refine hK _ ?_; clear hK K
            (with_reducible refine wl_k ?_ ?_); exact rfl; intro K hK; go_simp; refine hK _ ?_; clear hK K
            (with_reducible refine wl_k ?_ ?_); exact rfl; intro K hK; go_simp; refine hK _ ?_; clear hK K
            go_upto_region 9 with (fail)
            apply wp_region_lit
            ((with_reducible apply wl_rowG); exact rfl; exact rfl; exact rowDc hq5)
            (with_reducible refine wl_put33 rfl rfl hp ?_); intro W6 hbx6 hkx6 hp6
            replace hb := hbx6 _ _ (by omega) hb
            (with_reducible refine wl_k ?_ ?_); exact rfl; intro K hK; go_simp; refine hK _ ?_; clear hK K
            go_wp2_with fail
            refine bodyPost_ret (res_decErr rfl _ _ p rfl hp6) rfl ⟨?_, hb⟩
            exact HV.out
          · have HV := Lib.hid (ret_no (pp_no HOK.out (by rw [HB.out, ← bsize]; exact fun e => hms (bytes_ext (by rw [HMM.out]; exact e.2)))))
            have hne := str_ne hms
            apply wp_region_lit
            (with_reducible refine wl_k ?_ ?_); exact rfl; intro K hK; go_simp; refine hK _ ?_; clear hK K
            (with_reducible refine wl_k ?_ ?_); exact rfl; intro K hK; go_simp; refine hK _ ?_; clear hK K
            (with_reducible refine wl_k ?_ ?_); exact rfl; intro K hK; go_simp; refine hK _ ?_; clear hK K
            (with_reducible refine wl_k ?_ ?_); exact rfl; intro K hK; go_simp; refine hK _ ?_; clear hK K
            (with_reducible refine wl_k ?_ ?_); exact rfl; intro K hK; go_simp; refine hK _ ?_; clear hK K
            (with_reducible refine wl_k ?_ ?_); exact rfl; intro K hK; go_simp; refine hK _ ?_; clear hK K
            (with_reducible refine wl_k ?_ ?_); exact rfl; intro K hK; go_simp; refine hK _ ?_; clear hK K
            go_upto_region 8 with (fail)
            apply wp_region_lit
            (with_reducible refine wl_k ?_ ?_); exact rfl; intro K hK; go_simp; refine hK _ ?_; clear hK K
            (with_reducible refine wl_put33 (u := 0) (k := 0) rfl rfl hp ?_); intro W6 hbx6 hkx6 hp6
            replace hb := hbx6 _ _ (by omega) hb
            (with_reducible refine wl_k ?_ ?_); exact rfl; intro K hK; go_simp; refine hK _ ?_; clear hK K
            go_wp2_with fail
            refine bodyPost_ret (res_decErr rfl _ _ p rfl hp6) rfl ⟨?_, hb⟩
            exact HV.out
        · have HV := Lib.hid (ret_no (pp_no HOK.out (by rw [HB.out, ← bsize]; exact fun e => hok e.1)))
          have c1 := Format_any v (b.size : Int) W5 (HE.out.old hb).tab
          rw [fm_bad (by simpa using hok)] at c1
          apply wp_region_lit
          ((with_reducible apply wl_rowG); exact rfl; exact rfl; exact rowDc hq5)
          (with_reducible refine wl_ck ?_ ?_); exact rfl; intro K hK; go_simp; refine ⟨_, _, ⟨rfl, rfl⟩, hK _ _ ⟨_, c1, ?_⟩⟩; clear hK K; rintro e w6 ⟨rfl, hb1⟩; refine ⟨_, rfl, ?_⟩; simp only [put_lit, List.set_cons_zero, List.set_cons_succ]
          replace hp := below_look hb1 hp; replace hq5 := below_look hb1 hq5; replace hb := hb.trans (hb1.mono hb.size); clear hb1
          clear c1
          (with_reducible refine wl_k ?_ ?_); exact rfl; intro K hK; go_simp; refine hK _ ?_; clear hK K
          (with_reducible refine wl_k ?_ ?_); exact rfl; intro K hK; go_simp; refine hK _ ?_; clear hK K
          (with_reducible refine wl_k ?_ ?_); exact rfl; intro K hK; go_simp; refine hK _ ?_; clear hK K
          (with_reducible refine wl_k ?_ ?_); exact rfl; intro K hK; go_simp; refine hK _ ?_; clear hK K
          (with_reducible refine wl_k ?_ ?_); exact rfl; intro K hK; go_simp; refine hK _ ?_; clear hK K
          go_upto_region 7 with (fail)
          apply wp_region_lit
          (with_reducible refine wl_k ?_ ?_); exact rfl; intro K hK; go_simp; refine hK _ ?_; clear hK K
          (with_reducible refine wl_k ?_ ?_); exact rfl; intro K hK; go_simp; refine hK _ ?_; clear hK K
          (with_reducible refine wl_k ?_ ?_); exact rfl; intro K hK; go_simp; refine hK _ ?_; clear hK K
          (first | ((with_reducible refine wl_skipU ?_ ?_ ?_); exact rfl; exact rfl) | ((with_reducible refine wl_skip ?_ ?_); exact rfl; simp only [put_lit, List.set_cons_zero, List.set_cons_succ]))
          (first | ((with_reducible refine wl_skipU ?_ ?_ ?_); exact rfl; exact rfl) | ((with_reducible refine wl_skip ?_ ?_); exact rfl; simp only [put_lit, List.set_cons_zero, List.set_cons_succ]))
          (first | ((with_reducible refine wl_skipU ?_ ?_ ?_); exact rfl; exact rfl) | ((with_reducible refine wl_skip ?_ ?_); exact rfl; simp only [put_lit, List.set_cons_zero, List.set_cons_succ]))
          (with_reducible refine wl_k ?_ ?_); exact rfl; intro K hK; go_simp; refine hK _ ?_; clear hK K
          go_upto_region 8 with (fail)
          apply wp_region_lit
          (with_reducible refine wl_k ?_ ?_); exact rfl; intro K hK; go_simp; refine hK _ ?_; clear hK K
          (with_reducible refine wl_put33 (u := 0) (k := 0) rfl rfl hp ?_); intro W6 hbx6 hkx6 hp6
          replace hb := hbx6 _ _ (by omega) hb
          (with_reducible refine wl_k ?_ ?_); exact rfl; intro K hK; go_simp; refine hK _ ?_; clear hK K
          go_wp2_with fail
          refine bodyPost_ret (res_decErr rfl _ _ p rfl hp6) rfl ⟨?_, hb⟩
          exact HV.out
      | false =>
        go_upto_region 4 with (fail)
        apply wp_region_lit
        (with_reducible refine wl_k ?_ ?_); exact rfl; intro K hK; go_simp; refine hK _ ?_; clear hK K
        (with_reducible refine wl_k ?_ ?_); exact rfl; intro K hK; go_simp; refine hK _ ?_; clear hK K
        (with_reducible refine wl_k ?_ ?_); exact rfl; intro K hK; go_simp; refine hK _ ?_; clear hK K
        (with_reducible refine wl_k ?_ ?_); exact rfl; intro K hK; go_simp; refine hK _ ?_; clear hK K
        (with_reducible refine wl_k ?_ ?_); exact rfl; intro K hK; go_simp; refine hK _ ?_; clear hK K
        (first | ((with_reducible refine wl_skipU ?_ ?_ ?_); exact rfl; exact rfl) | ((with_reducible refine wl_skip ?_ ?_); exact rfl; simp only [put_lit, List.set_cons_zero, List.set_cons_succ]))
        (first | ((with_reducible refine wl_skipU ?_ ?_ ?_); exact rfl; exact rfl) | ((with_reducible refine wl_skip ?_ ?_); exact rfl; simp only [put_lit, List.set_cons_zero, List.set_cons_succ]))
        (with_reducible refine wl_k ?_ ?_); exact rfl; intro K hK; go_simp; refine hK _ ?_; clear hK K
        (with_reducible refine wl_k ?_ ?_); exact rfl; intro K hK; go_simp; refine hK _ ?_; clear hK K
        go_upto_region 6 with (fail)
        by_cases hok : okD v (b.size : Int) = true
        · obtain ⟨m, hm⟩ : ∃ m : ByteArray, m = ⟨(fmtL v b.size).toArray⟩ := ⟨_, rfl⟩
          have c1 := Format_any v (b.size : Int) W5 (HE.out.old hb).tab
          rw [fm_goodN hok (m := m) (by rw [hm])] at c1
          have HMM := Lib.hid hm
          clear hm
          apply wp_region_lit
          ((with_reducible apply wl_rowG); exact rfl; exact rfl; exact rowDc hq5)
          (with_reducible refine wl_ck ?_ ?_); exact rfl; intro K hK; go_simp; refine ⟨_, _, ⟨rfl, rfl⟩, hK _ _ ⟨_, c1, ?_⟩⟩; clear hK K; rintro e w6 ⟨rfl, hb1⟩; refine ⟨_, rfl, ?_⟩; simp only [put_lit, List.set_cons_zero, List.set_cons_succ]
          replace hp := below_look hb1 hp; replace hq5 := below_look hb1 hq5; replace hb := hb.trans (hb1.mono hb.size); clear hb1
          clear c1
          (with_reducible refine wl_k ?_ ?_); exact rfl; intro K hK; go_simp; refine hK _ ?_; clear hK K
          (with_reducible refine wl_k ?_ ?_); exact rfl; intro K hK; go_simp; refine hK _ ?_; clear hK K
          (with_reducible refine wl_k ?_ ?_); exact rfl; intro K hK; go_simp; refine hK _ ?_; clear hK K
          (with_reducible refine wl_k ?_ ?_); exact rfl; intro K hK; go_simp; refine hK _ ?_; clear hK K
          (with_reducible refine wl_k ?_ ?_); exact rfl; intro K hK; go_simp; refine hK _ ?_; clear hK K
          go_upto_region 7 with (fail)
          by_cases hms : m = s
          · have hyes := ret_yes (pp_yes HOK.out (by rw [← HF.out, HB.out]; exact fun e => hd ⟨e.1, bytes_ext e.2⟩) (by rw [HB.out, ← bsize]; exact ⟨hok, by rw [← hms, HMM.out]⟩))
            rw [HB.out, ← bsize] at hyes
            have HV := Lib.hid hyes
            clear hyes
            subst hms
            apply wp_region_lit
            (with_reducible refine wl_k ?_ ?_); exact rfl; intro K hK; go_simp; refine hK _ ?_; clear hK K
            (with_reducible refine wl_k ?_ ?_); exact rfl; intro K hK; go_simp; refine hK _ ?_; clear hK K
            (with_reducible refine wl_k ?_ ?_); exact rfl; intro K hK; go_simp; refine hK _ ?_; clear hK K
            (with_reducible refine wl_k ?_ ?_); exact rfl; intro K hK; go_simp; refine hK _ ?_; clear hK K
            (with_reducible refine wl_k ?_ ?_); exact rfl; intro K hK; go_simp; refine hK _ ?_; clear hK K
            (with_reducible refine wl_k ?_ ?_); exact rfl; intro K hK; go_simp; refine hK _ ?_; clear hK K
            (with_reducible refine wl_k ?_ ?_); exact rfl; intro K hK; go_simp; refine hK _ ?_; clear hK K
            go_upto_region 9 with (fail)
            apply wp_region_lit
            ((with_reducible apply wl_rowG); exact rfl; exact rfl; exact rowDc hq5)
            (with_reducible refine wl_put33 rfl rfl hp ?_); intro W6 hbx6 hkx6 hp6
            replace hb := hbx6 _ _ (by omega) hb
            (with_reducible refine wl_k ?_ ?_); exact rfl; intro K hK; go_simp; refine hK _ ?_; clear hK K
            go_wp2_with fail
            refine bodyPost_ret (res_decErr rfl _ _ p rfl hp6) rfl ⟨?_, hb⟩
            exact HV.out
          · have HV := Lib.hid (ret_no (pp_no HOK.out (by rw [HB.out, ← bsize]; exact fun e => hms (bytes_ext (by rw [HMM.out]; exact e.2)))))
            have hne := str_ne hms
            apply wp_region_lit
            (with_reducible refine wl_k ?_ ?_); exact rfl; intro K hK; go_simp; refine hK _ ?_; clear hK K
            (with_reducible refine wl_k ?_ ?_); exact rfl; intro K hK; go_simp; refine hK _ ?_; clear hK K
            (with_reducible refine wl_k ?_ ?_); exact rfl; intro K hK; go_simp; refine hK _ ?_; clear hK K
            (with_reducible refine wl_k ?_ ?_); exact rfl; intro K hK; go_simp; refine hK _ ?_; clear hK K
            (with_reducible refine wl_k ?_ ?_); exact rfl; intro K hK; go_simp; refine hK _ ?_; clear hK K
            (with_reducible refine wl_k ?_ ?_); exact rfl; intro K hK; go_simp; refine hK _ ?_; clear hK K
            (with_reducible refine wl_k ?_ ?_); exact rfl; intro K hK; go_simp; refine hK _ ?_; clear hK K
            go_upto_region 8 with (fail)
            apply wp_region_lit
            (with_reducible refine wl_k ?_ ?_); exact rfl; intro K hK; go_simp; refine hK _ ?_; clear hK K
            (with_reducible refine wl_put33 (u := 0) (k := 0) rfl rfl hp ?_); intro W6 hbx6 hkx6 hp6
            replace hb := hbx6 _ _ (by omega) hb
            (with_reducible refine wl_k ?_ ?_); exact rfl; intro K hK; go_simp; refine hK _ ?_; clear hK K
            go_wp2_with fail
            refine bodyPost_ret (res_decErr rfl _ _ p rfl hp6) rfl ⟨?_, hb⟩
            exact HV.out
        · have HV := Lib.hid (ret_no (pp_no HOK.out (by rw [HB.out, ← bsize]; exact fun e => hok e.1)))
          have c1 := Format_any v (b.size : Int) W5 (HE.out.old hb).tab
          rw [fm_bad (by simpa using hok)] at c1
          apply wp_region_lit
          ((with_reducible apply wl_rowG); exact rfl; exact rfl; exact rowDc hq5)
          (with_reducible refine wl_ck ?_ ?_); exact rfl; intro K hK; go_simp; refine ⟨_, _, ⟨rfl, rfl⟩, hK _ _ ⟨_, c1, ?_⟩⟩; clear hK K; rintro e w6 ⟨rfl, hb1⟩; refine ⟨_, rfl, ?_⟩; simp only [put_lit, List.set_cons_zero, List.set_cons_succ]
          replace hp := below_look hb1 hp; replace hq5 := below_look hb1 hq5; replace hb := hb.trans (hb1.mono hb.size); clear hb1
          clear c1
          (with_reducible refine wl_k ?_ ?_); exact rfl; intro K hK; go_simp; refine hK _ ?_; clear hK K
          (with_reducible refine wl_k ?_ ?_); exact rfl; intro K hK; go_simp; refine hK _ ?_; clear hK K
          (with_reducible refine wl_k ?_ ?_); exact rfl; intro K hK; go_simp; refine hK _ ?_; clear hK K
          (with_reducible refine wl_k ?_ ?_); exact rfl; intro K hK; go_simp; refine hK _ ?_; clear hK K
          (with_reducible refine wl_k ?_ ?_); exact rfl; intro K hK; go_simp; refine hK _ ?_; clear hK K
          go_upto_region 7 with (fail)
          apply wp_region_lit
          (with_reducible refine wl_k ?_ ?_); exact rfl; intro K hK; go_simp; refine hK _ ?_; clear hK K
          (with_reducible refine wl_k ?_ ?_); exact rfl; intro K hK; go_simp; refine hK _ ?_; clear hK K
          (with_reducible refine wl_k ?_ ?_); exact rfl; intro K hK; go_simp; refine hK _ ?_; clear hK K
          (first | ((with_reducible refine wl_skipU ?_ ?_ ?_); exact rfl; exact rfl) | ((with_reducible refine wl_skip ?_ ?_); exact rfl; simp only [put_lit, List.set_cons_zero, List.set_cons_succ]))
          (first | ((with_reducible refine wl_skipU ?_ ?_ ?_); exact rfl; exact rfl) | ((with_reducible refine wl_skip ?_ ?_); exact rfl; simp only [put_lit, List.set_cons_zero, List.set_cons_succ]))
          (first | ((with_reducible refine wl_skipU ?_ ?_ ?_); exact rfl; exact rfl) | ((with_reducible refine wl_skip ?_ ?_); exact rfl; simp only [put_lit, List.set_cons_zero, List.set_cons_succ]))
          (with_reducible refine wl_k ?_ ?_); exact rfl; intro K hK; go_simp; refine hK _ ?_; clear hK K
          go_upto_region 8 with (fail)
          apply wp_region_lit
          (with_reducible refine wl_k ?_ ?_); exact rfl; intro K hK; go_simp; refine hK _ ?_; clear hK K
          (with_reducible refine wl_put33 (u := 0) (k := 0) rfl rfl hp ?_); intro W6 hbx6 hkx6 hp6
          replace hb := hbx6 _ _ (by omega) hb
          (with_reducible refine wl_k ?_ ?_); exact rfl; intro K hK; go_simp; refine hK _ ?_; clear hK K
          go_wp2_with fail
          refine bodyPost_ret (res_decErr rfl _ _ p rfl hp6) rfl ⟨?_, hb⟩
          exact HV.out
  · have HV := Lib.hid (ret_no (pp_err HNO))
    clear HNO
    go_upto_region 4 with (fail)
    apply wp_region_lit
    (with_reducible refine wl_k ?_ ?_); exact rfl; intro K hK; go_simp; refine hK _ ?_; clear hK K
    (with_reducible refine wl_k ?_ ?_); exact rfl; intro K hK; go_simp; refine hK _ ?_; clear hK K
    (with_reducible refine wl_k ?_ ?_); exact rfl; intro K hK; go_simp; refine hK _ ?_; clear hK K
    (first | ((with_reducible refine wl_skipU ?_ ?_ ?_); exact rfl; exact rfl) | ((with_reducible refine wl_skip ?_ ?_); exact rfl; simp only [put_lit, List.set_cons_zero, List.set_cons_succ]))
    (first | ((with_reducible refine wl_skipU ?_ ?_ ?_); exact rfl; exact rfl) | ((with_reducible refine wl_skip ?_ ?_); exact rfl; simp only [put_lit, List.set_cons_zero, List.set_cons_succ]))
    (first | ((with_reducible refine wl_skipU ?_ ?_ ?_); exact rfl; exact rfl) | ((with_reducible refine wl_skip ?_ ?_); exact rfl; simp only [put_lit, List.set_cons_zero, List.set_cons_succ]))
    (first | ((with_reducible refine wl_skipU ?_ ?_ ?_); exact rfl; exact rfl) | ((with_reducible refine wl_skip ?_ ?_); exact rfl; simp only [put_lit, List.set_cons_zero, List.set_cons_succ]))
    (first | ((with_reducible refine wl_skipU ?_ ?_ ?_); exact rfl; exact rfl) | ((with_reducible refine wl_skip ?_ ?_); exact rfl; simp only [put_lit, List.set_cons_zero, List.set_cons_succ]))
    (with_reducible refine wl_k ?_ ?_); exact rfl; intro K hK; go_simp; refine hK _ ?_; clear hK K
    go_upto_region 5 with (fail)
    apply wp_region_lit
    (with_reducible refine wl_k ?_ ?_); exact rfl; intro K hK; go_simp; refine hK _ ?_; clear hK K
    (with_reducible refine wl_put33 (u := 0) (k := 0) rfl rfl hp ?_); intro W6 hbx6 hkx6 hp6
    replace hb := hbx6 _ _ (by omega) hb
    (with_reducible refine wl_k ?_ ?_); exact rfl; intro K hK; go_simp; refine hK _ ?_; clear hK K
    go_wp2_with fail
    refine bodyPost_ret (res_decErr rfl _ _ p rfl hp6) rfl ⟨?_, hb⟩
    exact HV.out
end Go.Proofs.YtclainfdeghgnaaGreatDoor
namespace Go.Proofs.YtclainfdeghgnaaGreatDoor
open Go.ChangeShapes Go.WideShapes Go.ChangeAt Go.RowKit
def lay5 : List (String × DataW Unit) := [("math/bits.deBruijn32tab", Rows.laid_math_bits_deBruijn32tab), ("math/bits.deBruijn64tab", Rows.laid_math_bits_deBruijn64tab), ("internal/strconv.uint64pow10", Rows.laid_internal_strconv_uint64pow10), ("strconv.ErrRange", Rows.laid_strconv_ErrRange), ("strconv.ErrSyntax", Rows.laid_strconv_ErrSyntax)]
theorem lay5_met (os : Os) (args : Array Value) : laidMetH Tryz.prog lay5 ((World.doorLaid Tryz.prog 62 os).forCall (fun _ _ => 0) ⟨#[], args, []⟩).memory :=
  laidMetH_of_parts3 (fuel := 8) (laidMet_of_run' 8 (by kernel_rfl) (by kernel_rfl)) (by kernel_rfl) (by kernel_rfl)
theorem gS : Tryz.prog.globalNamed "strconv.ErrSyntax" = some 1 := by kernel_rfl
theorem gR : Tryz.prog.globalNamed "strconv.ErrRange" = some 2 := by kernel_rfl
theorem star144 : "*" ++ "errors.errorString" = "*errors.errorString" := by decide
theorem row144 (u : TypeId) (h : Tryz.prog.typeName? 3 u = some "*errors.errorString") : u = 139 :=
  typeName_ptr_named (nm := "errors.errorString") (by rw [star144]; kernel_rfl) (by kernel_rfl) (by decide) u (by rw [star144]; exact h)
theorem env_of {W : World} (h : laidMetH Tryz.prog lay5 W) (hsh : W.ShapedOpen Tryz.prog) : Env W := by
  rw [Go.MakeChecks.laidMetH_plain _ _ _ (by kernel_rfl)] at h
  have h3 := h.tail.tail.tail
  obtain ⟨a, s, hv, -⟩ := laid_sentinel h3 gR (ti := 35) (by kernel_rfl) Tryz.underlying35 row144 Tryz.underlying139 Tryz.underlying141 rfl rfl (by kernel_rfl) (by kernel_rfl) (by kernel_rfl)
  obtain ⟨b, t, hw, -⟩ := laid_sentinel h3.tail gS (ti := 35) (by kernel_rfl) Tryz.underlying35 row144 Tryz.underlying139 Tryz.underlying141 rfl rfl (by kernel_rfl) (by kernel_rfl) (by kernel_rfl)
  have h2 : laidMet Tryz.prog [("internal/strconv.uint64pow10", Lib.tabData .u64 Lib.pow10Tab), ("strconv.ErrRange", Rows.laid_strconv_ErrRange), ("strconv.ErrSyntax", Rows.laid_strconv_ErrSyntax)] W := h.tail.tail
  exact ⟨Lib.tabIs_of_head gT gTType u135 u55 cells55 cells135 h2, Tryz.laysM145.s1_3 W hsh, ⟨_, by simpa using World.var?_cell gS hw 0, Or.inr ⟨_, _, rfl⟩⟩, _, by simpa using World.var?_cell gR hv 0, Or.inr ⟨_, _, rfl⟩⟩
section
variable {H : Type} {enc : TypeId × Value → H}
set_option maxRecDepth 100000 in
/-- A row whose walk asks both for what listed variables hold and for the world's shape. -/
theorem handed_shaped {os : Os} {f : FuncId} {fn : Func} {s : ChangeSpec} {X : World → Prop} (hX : ∀ w w' : World, w.heap = w'.heap → X w → X w') (started : os.Started) (noInit : Tryz.checked.prog.inits.idxOf? f = none) (hfn : Tryz.checked.prog.funcs[f]? = some fn)
    (witness : ∃ (w : World) (tape : Tape) (i : Input), w.os = os ∧ (w.forCall tape i).Shaped Tryz.checked.prog ∧ i.vars = [] ∧ Input.okWide Tryz.checked.prog (w.forCall tape i) .any w.heap.size f i ∧
      ((s.pre enc Tryz.checked.prog fn [] false (w.forCall tape i).memory i.args ∧ X (w.forCall tape i).memory) ∧ sizedMet enc Tryz.checked.prog fn (OpenSpec.ofChange s) false (w.forCall tape i).memory i.args) ∧ ({} : Assume).holds Tryz.checked.prog (lone (Frame.enter Tryz.checked.prog f i.args .normal) [] (w.forCall tape i)))
    (contract : ∀ (W : World) (base : Nat) (args : Array Value) (ds gs : List (DataW H)) (before : List MemPlace),
      (∀ (j : Nat) t v, fn.params[j]? = some t → args[j]? = some v → Value.okWide Tryz.checked.prog W .any base t v) →
      DataW.Whole enc Tryz.checked.prog fn.params.toList s.vars false W args.toList ds gs before → X W → W.ShapedOpen Tryz.checked.prog →
      Calls Tryz.checked.prog f args W fun e W' => ∃ v, e = .returned v ∧ s.post enc Tryz.checked.prog fn false true false false W args v W') :
    ReturnsInHanded {} Tryz.checked os f .any (fun w args => (s.pre enc Tryz.checked.prog fn [] false w args ∧ X w) ∧ sizedMet enc Tryz.checked.prog fn (OpenSpec.ofChange s) false w args) (s.post enc Tryz.checked.prog fn false true false false) := by
  refine returnsInHanded_of_calls own0 started noInit witness fun w tape i _ hsh _ hok hpre _ => ?_
  obtain ⟨_, _, _, fn', hfn', _, _, _, _, hval⟩ := hok
  cases Option.some.inj (hfn'.symm.trans hfn)
  have hw := hpre.1.1
  obtain ⟨ds, gs, before, hw, -⟩ := hw
  have hw' := DataW.Whole.of_heap (w' := w.forCall tape i) (by rfl) hw
  exact (contract _ _ _ ds gs before hval hw' (hX (w.forCall tape i).memory _ (by rfl) hpre.1.2) hsh).mono fun e W' ⟨v, he, hp⟩ => by
    subst he
    exact ChangeSpec.post_blind hp
end
end Go.Proofs.YtclainfdeghgnaaGreatDoor
namespace Go.Proofs.YtclainfdeghgnaaGreatDoor
open Go.RowKit Go.Proofs.YtclainfdeghgnaaGreatDoor.Nm Go.Proofs.YtclainfdeghgnaaGreatDoor.Lm
set_option linter.unusedSimpArgs false
theorem body0 {k : Nat} (h : ¬ 0 < k) {W : List UInt8} : bodyL k W = W := by unfold bodyL; rw [if_pos (by omega)]
theorem fmt1b {k n : Nat} {m : ByteArray} {W : List UInt8} (hk : k ≠ 0) (hm : m.data.toList = W) (hn : m.size = n + k) : (((m.extract 0 n) ++ ⟨#[46]⟩) ++ m.extract n m.size).data.toList = bodyL k W := by
  rw [ByteArray.data_append, Array.toList_append, ByteArray.data_append, Array.toList_append]
  have e1 : (m.extract 0 n).data.toList = W.take n := by
    rw [ByteArray.data_extract, Array.toList_extract, hm]; simp
  have e2 : (m.extract n m.size).data.toList = W.drop n := by
    rw [ByteArray.data_extract, Array.toList_extract, hm, bsize, hm]; simp only [List.extract_eq_take_drop]; exact List.take_of_length_le (by rw [List.length_drop]; exact Nat.le_refl _)
  rw [e1, e2]
  rw [bsize, hm] at hn
  unfold bodyL
  rw [if_neg hk, hn, Nat.add_sub_cancel]
  simp
theorem fmt_cat {u : Int} {k : Nat} {sg m : ByteArray} (hs : sg.data.toList = sgL u) (hm : m.data.toList = bodyL k (padW k (Lib.decDigits u.natAbs))) : (sg ++ m).data.toList = fmtL u k := by
  rw [ByteArray.data_append, Array.toList_append, hs, hm]; rfl
theorem fmt_cat0 {u : Int} {k : Nat} {m : ByteArray} (hs : (⟨#[]⟩ : ByteArray).data.toList = sgL u) (hm : m.data.toList = bodyL k (padW k (Lib.decDigits u.natAbs))) : m.data.toList = fmtL u k := by
  unfold fmtL; rw [← hs, hm]; rfl
theorem nl_smallG {n : Nat} (h : n ≤ 100000000000000000) : nl n ≤ 400 := Nat.le_trans (nl_le n 2 (by rw [B_eq]; omega)) (by omega)
set_option maxHeartbeats 4000000 in
set_option maxRecDepth 100000 in
theorem FormatI_any (u k : Int) (w : World) : Calls Tryz.prog 16 #[.agg (dc u k)] w fun e w' => e = .returned (fmV u k) ∧ Below w.heap.size w w' := by
  have hb := Below.refl w.heap.size w
  go_enter Tryz.func16, Tryz.ntmps16
  go_upto_region 0 with (fail)
  apply wp_region_lit
  (with_reducible refine wl_boxD rfl ?_); intro W p hbn hlp hp; replace hb := hb.trans (hbn.mono hb.size); clear hbn; simp only [put_lit, List.set_cons_zero, List.set_cons_succ]
  (with_reducible refine wl_k ?_ ?_); exact rfl; intro K hK; go_simp; refine hK _ ?_; clear hK K
  (with_reducible refine wl_k ?_ ?_); exact rfl; intro K hK; go_simp; refine hK _ ?_; clear hK K
  obtain ⟨R, hR⟩ : ∃ R, R = validD u k := ⟨_, rfl⟩
  have HR := Lib.hid hR
  clear hR
  go_upto_region 1 with (fail)
  apply wp_region_lit
  ((with_reducible apply wl_rowG); exact rfl; exact rfl; exact rowDc hp)
  (with_reducible refine wl_ck ?_ ?_); exact rfl; intro K hK; go_simp; refine ⟨_, _, ⟨rfl, rfl⟩, hK _ _ ⟨_, ValidI_any u k R HR _, ?_⟩⟩; clear hK K; rintro e w4 ⟨rfl, hb4⟩; refine ⟨_, rfl, ?_⟩; simp only [put_lit, List.set_cons_zero, List.set_cons_succ]
  replace hp := below_look hb4 hp; replace hb := hb.trans (hb4.mono hb.size); clear hb4
  cases R with
  | false =>
    (with_reducible refine wl_k ?_ ?_); exact rfl; intro K hK; go_simp; refine hK _ ?_; clear hK K
    have HV := Lib.hid (fm_bad HR.out.symm)
    go_upto_region 2 with (fail)
    apply wp_region_lit
    (with_reducible refine wl_k ?_ ?_); exact rfl; intro K hK; go_simp; refine hK _ ?_; clear hK K
    (with_reducible refine wl_k ?_ ?_); exact rfl; intro K hK; go_simp; refine hK _ ?_; clear hK K
    go_wp2_with fail
    go_ret2
    exact ⟨by rw [HV.out]; rfl, hb⟩
  | true =>
    (with_reducible refine wl_k ?_ ?_); exact rfl; intro K hK; go_simp; refine hK _ ?_; clear hK K
    obtain ⟨k0, hk0⟩ : ∃ n : Nat, k = (n : Int) := ⟨k.toNat, by have := (okD_iff.1 HR.out.symm).2.2.1; omega⟩
    subst hk0
    obtain ⟨n1, n2, -, n4⟩ := okD_iff.1 HR.out.symm
    have HO := Lib.hid (show okD u k0 = true from HR.out.symm)
    obtain ⟨m, hm⟩ : ∃ m : ByteArray, m = ⟨(txt u).toArray⟩ := ⟨_, rfl⟩
    have HM : Hid (m.data.toList = txt u) := Lib.hid (by rw [hm])
    have HMM := Lib.hid hm
    clear hm
    go_upto_region 3 with (fail)
    apply wp_region_lit
    (with_reducible refine wl_k ?_ ?_); exact rfl; intro K hK; go_simp; refine hK _ ?_; clear hK K
    ((with_reducible apply wl_oneG); exact rfl; exact rfl; exact fD0 hp)
    (with_reducible refine wl_ck ?_ ?_); exact rfl; intro K hK; go_simp; refine ⟨_, _, ⟨rfl, rfl⟩, hK _ _ ⟨_, Of_any u (by omega) (by omega) _, ?_⟩⟩; clear hK K; rintro e w5 ⟨A, c, rfl, hI, hb5⟩; refine ⟨_, rfl, ?_⟩; simp only [put_lit, List.set_cons_zero, List.set_cons_succ]
    replace hp := below_look hb5 hp; replace hb := hb.trans (hb5.mono hb.size); clear hb5
    have hT := TextI_any u A c w5 hI (nl_smallG (by omega)) (by omega)
    rw [← HMM.out] at hT
    (with_reducible refine wl_ck ?_ ?_); exact rfl; intro K hK; go_simp; refine ⟨_, _, ⟨rfl, rfl⟩, hK _ _ ⟨_, hT, ?_⟩⟩; clear hK K; rintro e w6 ⟨rfl, hb6⟩; refine ⟨_, rfl, ?_⟩; simp only [put_lit, List.set_cons_zero, List.set_cons_succ]
    replace hp := below_look hb6 hp; replace hb := hb.trans (hb6.mono hb.size); clear hb6
    clear hT hI HMM
    (with_reducible refine wl_k ?_ ?_); exact rfl; intro K hK; go_simp; refine hK _ ?_; clear hK K
    go_upto_region 4 with (fail)
    by_cases hu : u < 0
    · apply wp_region_lit
      (with_reducible refine wl_k ?_ ?_); exact rfl; intro K hK; go_simp; refine hK _ ?_; clear hK K
      ((with_reducible apply wl_oneG); exact rfl; exact rfl; exact fD0 hp)
      (with_reducible refine wl_k ?_ ?_); exact rfl; intro K hK; go_simp; refine hK _ ?_; clear hK K
      (with_reducible refine wl_k ?_ ?_); exact rfl; intro K hK; go_simp; refine hK _ ?_; clear hK K
      have HS := Lib.hid (sg_neg hu)
      obtain ⟨hm1, hm2⟩ := itoa_tail hu (show m.data.toList = Lib.itoa u by rw [HM.out, txt_sg, itoa_sg])
      have hmI : (1 : Int) ≤ (m.size : Int) := by omega
      have HW := Lib.hid hm2
      clear hm2 HM
      go_upto_region 5 with (fail)
      apply wp_region_lit
      (with_reducible refine wl_k ?_ ?_); exact rfl; intro K hK; go_simp; refine hK _ ?_; clear hK K
      go_upto_region 6 with (fail)
      apply wp_region_lit
      (with_reducible refine wl_k ?_ ?_); exact rfl; intro K hK; go_simp; refine hK _ ?_; clear hK K
      (with_reducible refine wl_k ?_ ?_); exact rfl; intro K hK; go_simp; refine hK _ ?_; clear hK K
      (with_reducible refine wl_k ?_ ?_); exact rfl; intro K hK; go_simp; refine hK _ ?_; clear hK K
      go_wp2_with fail
      go_loopw [4] (fun v wr => ∃ m' : ByteArray, v = .string m' ∧ Hid (PadS m' k0 (Lib.decDigits u.natAbs)) ∧ wr.heap[p]? = some (.cells (dc u (k0 : Int)) 25 (0, 0)) ∧ Below w.heap.size w wr) (fun v _ => k0 + 1 - strSz v)
      case atStart => exact ⟨_, rfl, Lib.hid (PadS.start k0 HW.out), hp, hb⟩
      case round =>
        clear hp hb HW
        obtain ⟨m', rfl, HPD, hp, hb⟩ := hrel
        have hsz := HPD.out.bound n4 (digs18 n1 n2)
        have hc0 : ¬ 9223372036854775807 < m'.size := by omega
        have hc1 : ¬ 9223372036854775807 < 1 + m'.size := by omega
        go_upto_region 7 with (fail)
        by_cases hle : m'.size ≤ k0
        · have hleI : (m'.size : Int) ≤ (k0 : Int) := by omega
          apply wp_region_lit
          (with_reducible refine wl_k ?_ ?_); exact rfl; intro K hK; go_simp; refine hK _ ?_; clear hK K
          (with_reducible refine wl_k ?_ ?_); exact rfl; intro K hK; go_simp; refine hK _ ?_; clear hK K
          (with_reducible refine wl_k ?_ ?_); exact rfl; intro K hK; go_simp; refine hK _ ?_; clear hK K
          ((with_reducible apply wl_oneG); exact rfl; exact rfl; exact fD1 hp)
          (with_reducible refine wl_k ?_ ?_); exact rfl; intro K hK; go_simp; refine hK _ ?_; clear hK K
          have HN := Lib.hid (HPD.out.step hle)
          have HMS : Hid (k0 + 1 - ((⟨#[48]⟩ : ByteArray) ++ m').size < k0 + 1 - m'.size) := Lib.hid (by rw [ByteArray.size_append]; show k0 + 1 - (1 + m'.size) < _; omega)
          go_upto_region 8 with (fail)
          apply wp_region_lit
          (with_reducible refine wl_k ?_ ?_); exact rfl; intro K hK; go_simp; refine hK _ ?_; clear hK K
          (with_reducible refine wl_k ?_ ?_); exact rfl; intro K hK; go_simp; refine hK _ ?_; clear hK K
          (with_reducible refine wl_k ?_ ?_); exact rfl; intro K hK; go_simp; refine hK _ ?_; clear hK K
          go_wp2_with fail
          go_roundw
          case rel => exact ⟨_, rfl, HN, hp, hb⟩
          case measure => exact HMS.out
        · have hleI : ¬ (m'.size : Int) ≤ (k0 : Int) := by omega
          apply wp_region_lit
          (with_reducible refine wl_k ?_ ?_); exact rfl; intro K hK; go_simp; refine hK _ ?_; clear hK K
          (with_reducible refine wl_k ?_ ?_); exact rfl; intro K hK; go_simp; refine hK _ ?_; clear hK K
          (with_reducible refine wl_k ?_ ?_); exact rfl; intro K hK; go_simp; refine hK _ ?_; clear hK K
          ((with_reducible apply wl_oneG); exact rfl; exact rfl; exact fD1 hp)
          (with_reducible refine wl_k ?_ ?_); exact rfl; intro K hK; go_simp; refine hK _ ?_; clear hK K
          have HD : Hid (m'.data.toList = padW k0 (Lib.decDigits u.natAbs)) := Lib.hid (HPD.out.done hle)
          clear HPD
          go_upto_region 9 with (fail)
          by_cases h0 : 0 < k0
          · have h0I : (0 : Int) < (k0 : Int) := by omega
            apply wp_region_lit
            (with_reducible refine wl_k ?_ ?_); exact rfl; intro K hK; go_simp; refine hK _ ?_; clear hK K
            ((with_reducible apply wl_oneG); exact rfl; exact rfl; exact fD1 hp)
            (with_reducible refine wl_k ?_ ?_); exact rfl; intro K hK; go_simp; refine hK _ ?_; clear hK K
            obtain ⟨n, hn⟩ : ∃ n, m'.size = n + k0 := ⟨m'.size - k0, by omega⟩
            have hwq : IntKind.i64.wrap ((m'.size : Int) - (k0 : Int)) = (n : Int) := by rw [hn]; rw [IntWalk.i64_in _ (by omega)]; omega
            have hnI : (n : Int) ≤ (m'.size : Int) := by omega
            have HB : Hid ((((m'.extract 0 n) ++ ⟨#[46]⟩) ++ m'.extract n m'.size).data.toList = bodyL k0 (padW k0 (Lib.decDigits u.natAbs))) := Lib.hid (fmt1b (by omega) HD.out hn)
            clear hn
            go_upto_region 10 with (fail)
            refine wp_region_belowAll mixed (by kernel_rfl) ?_
            (with_reducible refine wq_k ?_ ?_); exact rfl; intro K hK; go_simp; (with_reducible refine hK _ ?_); clear hK K
            (with_reducible refine wq_k ?_ ?_); exact rfl; intro K hK; go_simp; (with_reducible refine hK _ ?_); clear hK K
            (with_reducible refine wq_k ?_ ?_); exact rfl; intro K hK; go_simp; (with_reducible refine hK _ ?_); clear hK K
            (with_reducible refine wq_k ?_ ?_); exact rfl; intro K hK; go_simp; (with_reducible refine hK _ ?_); clear hK K
            ((with_reducible apply wq_one); exact rfl; exact rfl; (intro w' hw'; exact fD1 (below_look hw' hp)))
            (with_reducible refine wq_k ?_ ?_); exact rfl; intro K hK; go_simp; (with_reducible refine hK _ ?_); clear hK K
            (with_reducible refine wq_k ?_ ?_); exact rfl; intro K hK; go_simp; (with_reducible refine hK _ ?_); clear hK K
            (with_reducible refine wq_k ?_ ?_); exact rfl; intro K hK; go_simp; (first | (with_reducible refine hK _ ?_) | (refine ⟨_, fun w => if_neg (by omega), hK _ ?_⟩)); clear hK K
            (with_reducible refine wq_k ?_ ?_); exact rfl; intro K hK; go_simp; (with_reducible refine hK _ ?_); clear hK K
            (with_reducible refine wq_k ?_ ?_); exact rfl; intro K hK; go_simp; (with_reducible refine hK _ ?_); clear hK K
            (with_reducible refine wq_k ?_ ?_); exact rfl; intro K hK; go_simp; (with_reducible refine hK _ ?_); clear hK K
            (with_reducible refine wq_k ?_ ?_); exact rfl; intro K hK; go_simp; (with_reducible refine hK _ ?_); clear hK K
            ((with_reducible apply wq_one); exact rfl; exact rfl; (intro w' hw'; exact fD1 (below_look hw' hp)))
            (with_reducible refine wq_k ?_ ?_); exact rfl; intro K hK; go_simp; (with_reducible refine hK _ ?_); clear hK K
            (with_reducible refine wq_k ?_ ?_); exact rfl; intro K hK; go_simp; (with_reducible refine hK _ ?_); clear hK K
            (with_reducible refine wq_k ?_ ?_); exact rfl; intro K hK; go_simp; (first | (with_reducible refine hK _ ?_) | (refine ⟨_, fun w => if_neg (by omega), hK _ ?_⟩)); clear hK K
            (with_reducible refine wq_k ?_ ?_); exact rfl; intro K hK; go_simp; (with_reducible refine hK _ ?_); clear hK K
            intro w' hw'
            replace hb := hb.trans (hw'.mono hb.size)
            clear hwq hnI
            have HV := Lib.hid (fm_goodN HO.out (m := (⟨#[45]⟩ : ByteArray) ++ ((m'.extract 0 n) ++ ⟨#[46]⟩) ++ m'.extract n m'.size) (fmt_cat (sg := ⟨#[45]⟩) HS.out HB.out))
            go_upto_region 11 with (fail)
            apply wp_region_lit
            (with_reducible refine wl_k ?_ ?_); exact rfl; intro K hK; go_simp; refine hK _ ?_; clear hK K
            go_upto_region 12 with (fail)
            apply wp_region_lit
            (with_reducible refine wl_k ?_ ?_); exact rfl; intro K hK; go_simp; refine hK _ ?_; clear hK K
            (with_reducible refine wl_k ?_ ?_); exact rfl; intro K hK; go_simp; (first | (refine hK _ ?_) | (refine ⟨_, if_neg (by omega), hK _ ?_⟩)); clear hK K
            (with_reducible refine wl_k ?_ ?_); exact rfl; intro K hK; go_simp; refine hK _ ?_; clear hK K
            go_upto_region 13 with (fail)
            apply wp_region_lit
            (with_reducible refine wl_k ?_ ?_); exact rfl; intro K hK; go_simp; refine hK _ ?_; clear hK K
            (with_reducible refine wl_k ?_ ?_); exact rfl; intro K hK; go_simp; refine hK _ ?_; clear hK K
            (with_reducible refine wl_k ?_ ?_); exact rfl; intro K hK; go_simp; refine hK _ ?_; clear hK K
            go_wp2_with fail
            go_ret2
            exact ⟨by rw [HV.out]; rfl, hb⟩
          · have h0I : ¬ (0 : Int) < (k0 : Int) := by omega
            apply wp_region_lit
            (with_reducible refine wl_k ?_ ?_); exact rfl; intro K hK; go_simp; refine hK _ ?_; clear hK K
            ((with_reducible apply wl_oneG); exact rfl; exact rfl; exact fD1 hp)
            (with_reducible refine wl_k ?_ ?_); exact rfl; intro K hK; go_simp; refine hK _ ?_; clear hK K
            have HB : Hid (m'.data.toList = bodyL k0 (padW k0 (Lib.decDigits u.natAbs))) := Lib.hid (HD.out.trans (body0 h0).symm)
            have HV := Lib.hid (fm_goodN HO.out (m := (⟨#[45]⟩ : ByteArray) ++ m') (fmt_cat (sg := ⟨#[45]⟩) HS.out HB.out))
            go_upto_region 11 with (fail)
            apply wp_region_lit
            (with_reducible refine wl_k ?_ ?_); exact rfl; intro K hK; go_simp; refine hK _ ?_; clear hK K
            go_upto_region 12 with (fail)
            apply wp_region_lit
            (with_reducible refine wl_k ?_ ?_); exact rfl; intro K hK; go_simp; refine hK _ ?_; clear hK K
            (with_reducible refine wl_k ?_ ?_); exact rfl; intro K hK; go_simp; (first | (refine hK _ ?_) | (refine ⟨_, if_neg (by omega), hK _ ?_⟩)); clear hK K
            (with_reducible refine wl_k ?_ ?_); exact rfl; intro K hK; go_simp; refine hK _ ?_; clear hK K
            go_upto_region 13 with (fail)
            apply wp_region_lit
            (with_reducible refine wl_k ?_ ?_); exact rfl; intro K hK; go_simp; refine hK _ ?_; clear hK K
            (with_reducible refine wl_k ?_ ?_); exact rfl; intro K hK; go_simp; refine hK _ ?_; clear hK K
            (with_reducible refine wl_k ?_ ?_); exact rfl; intro K hK; go_simp; refine hK _ ?_; clear hK K
            go_wp2_with fail
            go_ret2
            exact ⟨by rw [HV.out]; rfl, hb⟩
    · apply wp_region_lit
      (with_reducible refine wl_k ?_ ?_); exact rfl; intro K hK; go_simp; refine hK _ ?_; clear hK K
      ((with_reducible apply wl_oneG); exact rfl; exact rfl; exact fD0 hp)
      (with_reducible refine wl_k ?_ ?_); exact rfl; intro K hK; go_simp; refine hK _ ?_; clear hK K
      (with_reducible refine wl_k ?_ ?_); exact rfl; intro K hK; go_simp; refine hK _ ?_; clear hK K
      have HS := Lib.hid (sg_pos hu)
      have HW := Lib.hid (itoa_pos hu (show m.data.toList = Lib.itoa u by rw [HM.out, txt_sg, itoa_sg]))
      clear HM
      go_upto_region 5 with (fail)
      apply wp_region_lit
      (with_reducible refine wl_k ?_ ?_); exact rfl; intro K hK; go_simp; refine hK _ ?_; clear hK K
      go_wp2_with fail
      go_loopw [4] (fun v wr => ∃ m' : ByteArray, v = .string m' ∧ Hid (PadS m' k0 (Lib.decDigits u.natAbs)) ∧ wr.heap[p]? = some (.cells (dc u (k0 : Int)) 25 (0, 0)) ∧ Below w.heap.size w wr) (fun v _ => k0 + 1 - strSz v)
      case atStart => exact ⟨_, rfl, Lib.hid (PadS.start k0 HW.out), hp, hb⟩
      case round =>
        clear hp hb HW
        obtain ⟨m', rfl, HPD, hp, hb⟩ := hrel
        have hsz := HPD.out.bound n4 (digs18 n1 n2)
        have hc0 : ¬ 9223372036854775807 < m'.size := by omega
        have hc1 : ¬ 9223372036854775807 < 1 + m'.size := by omega
        go_upto_region 7 with (fail)
        by_cases hle : m'.size ≤ k0
        · have hleI : (m'.size : Int) ≤ (k0 : Int) := by omega
          apply wp_region_lit
          (with_reducible refine wl_k ?_ ?_); exact rfl; intro K hK; go_simp; refine hK _ ?_; clear hK K
          (with_reducible refine wl_k ?_ ?_); exact rfl; intro K hK; go_simp; refine hK _ ?_; clear hK K
          (with_reducible refine wl_k ?_ ?_); exact rfl; intro K hK; go_simp; refine hK _ ?_; clear hK K
          ((with_reducible apply wl_oneG); exact rfl; exact rfl; exact fD1 hp)
          (with_reducible refine wl_k ?_ ?_); exact rfl; intro K hK; go_simp; refine hK _ ?_; clear hK K
          have HN := Lib.hid (HPD.out.step hle)
          have HMS : Hid (k0 + 1 - ((⟨#[48]⟩ : ByteArray) ++ m').size < k0 + 1 - m'.size) := Lib.hid (by rw [ByteArray.size_append]; show k0 + 1 - (1 + m'.size) < _; omega)
          go_upto_region 8 with (fail)
          apply wp_region_lit
          (with_reducible refine wl_k ?_ ?_); exact rfl; intro K hK; go_simp; refine hK _ ?_; clear hK K
          (with_reducible refine wl_k ?_ ?_); exact rfl; intro K hK; go_simp; refine hK _ ?_; clear hK K
          (with_reducible refine wl_k ?_ ?_); exact rfl; intro K hK; go_simp; refine hK _ ?_; clear hK K
          go_wp2_with fail
          go_roundw
          case rel => exact ⟨_, rfl, HN, hp, hb⟩
          case measure => exact HMS.out
        · have hleI : ¬ (m'.size : Int) ≤ (k0 : Int) := by omega
          apply wp_region_lit
          (with_reducible refine wl_k ?_ ?_); exact rfl; intro K hK; go_simp; refine hK _ ?_; clear hK K
          (with_reducible refine wl_k ?_ ?_); exact rfl; intro K hK; go_simp; refine hK _ ?_; clear hK K
          (with_reducible refine wl_k ?_ ?_); exact rfl; intro K hK; go_simp; refine hK _ ?_; clear hK K
          ((with_reducible apply wl_oneG); exact rfl; exact rfl; exact fD1 hp)
          (with_reducible refine wl_k ?_ ?_); exact rfl; intro K hK; go_simp; refine hK _ ?_; clear hK K
          have HD : Hid (m'.data.toList = padW k0 (Lib.decDigits u.natAbs)) := Lib.hid (HPD.out.done hle)
          clear HPD
          go_upto_region 9 with (fail)
          by_cases h0 : 0 < k0
          · have h0I : (0 : Int) < (k0 : Int) := by omega
            apply wp_region_lit
            (with_reducible refine wl_k ?_ ?_); exact rfl; intro K hK; go_simp; refine hK _ ?_; clear hK K
            ((with_reducible apply wl_oneG); exact rfl; exact rfl; exact fD1 hp)
            (with_reducible refine wl_k ?_ ?_); exact rfl; intro K hK; go_simp; refine hK _ ?_; clear hK K
            obtain ⟨n, hn⟩ : ∃ n, m'.size = n + k0 := ⟨m'.size - k0, by omega⟩
            have hwq : IntKind.i64.wrap ((m'.size : Int) - (k0 : Int)) = (n : Int) := by rw [hn]; rw [IntWalk.i64_in _ (by omega)]; omega
            have hnI : (n : Int) ≤ (m'.size : Int) := by omega
            have HB : Hid ((((m'.extract 0 n) ++ ⟨#[46]⟩) ++ m'.extract n m'.size).data.toList = bodyL k0 (padW k0 (Lib.decDigits u.natAbs))) := Lib.hid (fmt1b (by omega) HD.out hn)
            clear hn
            go_upto_region 10 with (fail)
            refine wp_region_belowAll mixed (by kernel_rfl) ?_
            (with_reducible refine wq_k ?_ ?_); exact rfl; intro K hK; go_simp; (with_reducible refine hK _ ?_); clear hK K
            (with_reducible refine wq_k ?_ ?_); exact rfl; intro K hK; go_simp; (with_reducible refine hK _ ?_); clear hK K
            (with_reducible refine wq_k ?_ ?_); exact rfl; intro K hK; go_simp; (with_reducible refine hK _ ?_); clear hK K
            (with_reducible refine wq_k ?_ ?_); exact rfl; intro K hK; go_simp; (with_reducible refine hK _ ?_); clear hK K
            ((with_reducible apply wq_one); exact rfl; exact rfl; (intro w' hw'; exact fD1 (below_look hw' hp)))
            (with_reducible refine wq_k ?_ ?_); exact rfl; intro K hK; go_simp; (with_reducible refine hK _ ?_); clear hK K
            (with_reducible refine wq_k ?_ ?_); exact rfl; intro K hK; go_simp; (with_reducible refine hK _ ?_); clear hK K
            (with_reducible refine wq_k ?_ ?_); exact rfl; intro K hK; go_simp; (first | (with_reducible refine hK _ ?_) | (refine ⟨_, fun w => if_neg (by omega), hK _ ?_⟩)); clear hK K
            (with_reducible refine wq_k ?_ ?_); exact rfl; intro K hK; go_simp; (with_reducible refine hK _ ?_); clear hK K
            (with_reducible refine wq_k ?_ ?_); exact rfl; intro K hK; go_simp; (with_reducible refine hK _ ?_); clear hK K
            (with_reducible refine wq_k ?_ ?_); exact rfl; intro K hK; go_simp; (with_reducible refine hK _ ?_); clear hK K
            (with_reducible refine wq_k ?_ ?_); exact rfl; intro K hK; go_simp; (with_reducible refine hK _ ?_); clear hK K
            ((with_reducible apply wq_one); exact rfl; exact rfl; (intro w' hw'; exact fD1 (below_look hw' hp)))
            (with_reducible refine wq_k ?_ ?_); exact rfl; intro K hK; go_simp; (with_reducible refine hK _ ?_); clear hK K
            (with_reducible refine wq_k ?_ ?_); exact rfl; intro K hK; go_simp; (with_reducible refine hK _ ?_); clear hK K
            (with_reducible refine wq_k ?_ ?_); exact rfl; intro K hK; go_simp; (first | (with_reducible refine hK _ ?_) | (refine ⟨_, fun w => if_neg (by omega), hK _ ?_⟩)); clear hK K
            (with_reducible refine wq_k ?_ ?_); exact rfl; intro K hK; go_simp; (with_reducible refine hK _ ?_); clear hK K
            intro w' hw'
            replace hb := hb.trans (hw'.mono hb.size)
            clear hwq hnI
            have HV := Lib.hid (fm_goodN HO.out (m := ((m'.extract 0 n) ++ ⟨#[46]⟩) ++ m'.extract n m'.size) (fmt_cat0 HS.out HB.out))
            go_upto_region 11 with (fail)
            apply wp_region_lit
            (with_reducible refine wl_k ?_ ?_); exact rfl; intro K hK; go_simp; refine hK _ ?_; clear hK K
            go_upto_region 13 with (fail)
            apply wp_region_lit
            (with_reducible refine wl_k ?_ ?_); exact rfl; intro K hK; go_simp; refine hK _ ?_; clear hK K
            (with_reducible refine wl_k ?_ ?_); exact rfl; intro K hK; go_simp; refine hK _ ?_; clear hK K
            (with_reducible refine wl_k ?_ ?_); exact rfl; intro K hK; go_simp; refine hK _ ?_; clear hK K
            go_wp2_with fail
            go_ret2
            exact ⟨by rw [HV.out]; rfl, hb⟩
          · have h0I : ¬ (0 : Int) < (k0 : Int) := by omega
            apply wp_region_lit
            (with_reducible refine wl_k ?_ ?_); exact rfl; intro K hK; go_simp; refine hK _ ?_; clear hK K
            ((with_reducible apply wl_oneG); exact rfl; exact rfl; exact fD1 hp)
            (with_reducible refine wl_k ?_ ?_); exact rfl; intro K hK; go_simp; refine hK _ ?_; clear hK K
            have HB : Hid (m'.data.toList = bodyL k0 (padW k0 (Lib.decDigits u.natAbs))) := Lib.hid (HD.out.trans (body0 h0).symm)
            have HV := Lib.hid (fm_goodN HO.out (m := m') (fmt_cat0 HS.out HB.out))
            go_upto_region 11 with (fail)
            apply wp_region_lit
            (with_reducible refine wl_k ?_ ?_); exact rfl; intro K hK; go_simp; refine hK _ ?_; clear hK K
            go_upto_region 13 with (fail)
            apply wp_region_lit
            (with_reducible refine wl_k ?_ ?_); exact rfl; intro K hK; go_simp; refine hK _ ?_; clear hK K
            (with_reducible refine wl_k ?_ ?_); exact rfl; intro K hK; go_simp; refine hK _ ?_; clear hK K
            (with_reducible refine wl_k ?_ ?_); exact rfl; intro K hK; go_simp; refine hK _ ?_; clear hK K
            go_wp2_with fail
            go_ret2
            exact ⟨by rw [HV.out]; rfl, hb⟩
end Go.Proofs.YtclainfdeghgnaaGreatDoor
namespace Go.Proofs.YtclainfdeghgnaaGreatDoor
open Go.RowKit Go.Proofs.YtclainfdeghgnaaGreatDoor.Nm Go.Proofs.YtclainfdeghgnaaGreatDoor.Lm
theorem retD_no {t : List UInt8} (h : parseD t = none) : Ending.returned (.tuple #[.agg (dc 0 0), .int .i64 4]) = Ending.returned (prV t) := ret_no (by rw [parse_same]; exact h)
theorem retD_yes {t : List UInt8} {u : Int} {k : Nat} (h : parseD t = some (u, k)) : Ending.returned (.tuple #[.agg (dc u (k : Int)), .int .i64 0]) = Ending.returned (prV t) := ret_yes (by rw [parse_same]; exact h)
theorem pd_long {t : List UInt8} (h : 30 < t.length) : parseD t = none := by unfold parseD; rw [if_pos h]
theorem pd_scan {t : List UInt8} (h : scanL t 0 [] 0 false = none) : parseD t = none := by
  unfold parseD
  split
  · rfl
  · rw [h]
theorem pd_read {t d : List UInt8} {s : Nat} (h : scanL t 0 [] 0 false = some (d, s)) (h2 : rd (dzL d) = none) : parseD t = none := by
  unfold parseD
  split
  · rfl
  · rw [h]; simp only [h2]
theorem pd_fin {t d : List UInt8} {s : Nat} {x : Int} (hl : ¬ 30 < t.length) (h : scanL t 0 [] 0 false = some (d, s)) (h2 : rd (dzL d) = some x) : parseD t = finD t (if t.head? = some 45 then -x else x) s := by
  unfold parseD
  rw [if_neg hl, h]; simp only [h2]
theorem fin_big {t : List UInt8} {u : Int} {s : Nat} (h : 100000000000000000 < u.natAbs) : finD t u s = none := by unfold finD; rw [if_neg fun e => by have := e.1; omega]
theorem fin_bad {t : List UInt8} {u : Int} {s : Nat} (h : ¬ (okD u s = true ∧ fmtL u s = t)) : finD t u s = none := by unfold finD; rw [if_neg fun e => h e.2]
theorem fin_yes {t : List UInt8} {u : Int} {s : Nat} (h : ¬ 100000000000000000 < u.natAbs) (h2 : okD u s = true ∧ fmtL u s = t) : finD t u s = some (u, s) := by unfold finD; rw [if_pos ⟨by omega, h2⟩]
theorem drop_at {l : List UInt8} {j : Nat} {c : UInt8} (h : l[j]? = some c) : l.drop j = c :: l.drop (j + 1) := by
  obtain ⟨hj, rfl⟩ := List.getElem?_eq_some_iff.1 h
  exact List.drop_eq_getElem_cons hj
section
variable {l d : List UInt8} {j s : Nat} {c : UInt8} {p : Bool} {R : Option (List UInt8 × Nat)}
theorem sc_dot (h : scanL (l.drop j) j d s false = R) (hc : l[j]? = some c) (e : c.toNat = 46) : scanL (l.drop (j + 1)) (j + 1) d s true = R := by
  rw [drop_at hc, scanL, if_pos ⟨by apply UInt8.toNat_inj.1; rw [e]; rfl, rfl⟩] at h
  exact h
theorem sc_sign (h : scanL (l.drop 0) 0 d s p = R) (hc : l[0]? = some c) (e : c.toNat = 45) : scanL (l.drop 1) 1 d s p = R := by
  have e45 : c = 45 := by apply UInt8.toNat_inj.1; rw [e]; rfl
  subst e45
  rw [drop_at hc, scanL, if_neg (fun e => absurd e.1 (by decide)), if_pos ⟨rfl, rfl⟩] at h
  exact h
theorem sc_digit (h : scanL (l.drop j) j d s p = R) (hc : l[j]? = some c) (e1 : 48 ≤ c.toNat) (e2 : c.toNat ≤ 57) : scanL (l.drop (j + 1)) (j + 1) (d ++ [c]) (if p = true then s + 1 else s) p = R := by
  have hd : isDg c = true := isDg_iff.2 ⟨e1, e2⟩
  rw [drop_at hc, scanL, if_neg (fun e => dg_ne46 hd e.1), if_neg (fun e => by have := e.1; subst this; revert e1; decide), if_pos hd] at h
  exact h
theorem sc_none (h : scanL (l.drop j) j d s p = R) (hc : l[j]? = some c) (h1 : ¬ (c.toNat = 46 ∧ p = false)) (h2 : ¬ (c.toNat = 45 ∧ j = 0)) (h3 : ¬ (48 ≤ c.toNat ∧ c.toNat ≤ 57)) : R = none := by
  rw [drop_at hc, scanL, if_neg (fun e => h1 ⟨by rw [e.1]; rfl, e.2⟩), if_neg (fun e => h2 ⟨by rw [e.1]; rfl, e.2⟩), if_neg (fun e => h3 (isDg_iff.1 e))] at h
  exact h.symm
theorem sc_end (h : scanL (l.drop j) j d s p = R) (hj : l.length ≤ j) : R = some (d, s) := by
  rw [List.drop_eq_nil_of_le hj, scanL] at h
  exact h.symm
end
def Dgs (d : List UInt8) : Prop := ∀ c, c ∈ d → isDg c = true
theorem Dgs.snoc {d : List UInt8} {c : UInt8} (h : Dgs d) (e1 : 48 ≤ c.toNat) (e2 : c.toNat ≤ 57) : Dgs (d ++ [c]) := fun x hx => by
  rcases List.mem_append.1 hx with hx | hx
  · exact h x hx
  · rw [List.mem_singleton.1 hx]; exact isDg_iff.2 ⟨e1, e2⟩
theorem dz_sub : ∀ (l : List UInt8) (c : UInt8), c ∈ dzL l → c ∈ l
  | [], c, h => h
  | a :: r, c, h => by
    rw [dzL] at h
    split at h
    · exact List.mem_cons_of_mem _ (dz_sub r c h)
    · exact h
theorem dz_step {l : List UInt8} {c : UInt8} (hc : l[0]? = some c) (e : c.toNat = 48) (hl : 1 < l.length) : dzL (l.drop 1) = dzL l := by
  cases l with
  | nil => simp at hl
  | cons a r =>
    have e48 : a = 48 := by
      have : a = c := by simpa using hc
      apply UInt8.toNat_inj.1; rw [this, e]; rfl
    subst e48
    rw [dzL, if_pos ⟨rfl, by rintro rfl; simp at hl⟩]
    rfl
theorem dz_stop0 {l : List UInt8} (hl : ¬ 1 < l.length) : dzL l = l := by
  cases l with
  | nil => rfl
  | cons a r =>
    have : r = [] := List.eq_nil_of_length_eq_zero (by have h2 : (a :: r).length = r.length + 1 := rfl; omega)
    subst this
    rw [dzL, if_neg fun e => e.2 rfl]
theorem dz_stop1 {l : List UInt8} {c : UInt8} (hc : l[0]? = some c) (e : c.toNat ≠ 48) : dzL l = l := by
  cases l with
  | nil => rfl
  | cons a r =>
    have : a = c := by simpa using hc
    subst this
    rw [dzL, if_neg fun e2 => e (by rw [e2.1]; rfl)]
theorem rd_pos {l : List UInt8} (h : Dgs l) {x : Int} (hx : rd l = some x) : 0 ≤ x := by
  unfold rd at hx
  split at hx
  · cases hx
  · have ht : Lib.trimPrefix l [45] = l := by
      cases l with
      | nil => rfl
      | cons a r =>
        have ha := h a (by simp)
        have : a ≠ 45 := fun e => by subst e; revert ha; decide
        unfold Lib.trimPrefix
        have hp : Lib.hasPrefix (a :: r) [45] = false := by
          show (45 == a && true) = false
          rw [Bool.and_true, beq_eq_false_iff_ne]; exact fun e => this e.symm
        rw [hp]; rfl
    rw [ht] at hx
    cases hx
    rw [decide_eq_false (by omega)]
    unfold sg
    simp
theorem sg_if {x : Int} (h : 0 ≤ x) (b : Bool) : sg b x.natAbs = if b = true then -x else x := by
  unfold sg
  cases b <;> simp <;> omega
theorem IvAt.sgn {w : World} {z z' : Int} {A : Option Addr} {c : Nat} (h : IvAt w z A c) (e : z'.natAbs = z.natAbs) : IvAt w z' A c := by unfold IvAt at *; rw [e]; exact h
theorem ext_one {s : ByteArray} {j : Nat} (h : j < s.size) : (s.extract j (j + 1)).data.toList = [s[j]] := by
  rw [ByteArray.data_extract, Array.toList_extract]
  rw [List.extract_eq_take_drop, List.drop_eq_getElem_cons (by rw [← bsize]; exact h)]
  simp
  rfl
theorem bytes_at {s : ByteArray} {j : Nat} (h : j < s.size) : s.data.toList[j]? = some s[j] := by
  rw [List.getElem?_eq_getElem (by simpa using h)]; rfl
theorem ext_rest {s : ByteArray} : (s.extract 1 s.size).data.toList = s.data.toList.drop 1 := by
  rw [ByteArray.data_extract, Array.toList_extract, List.extract_eq_take_drop]
  exact List.take_of_length_le (by rw [List.length_drop, bsize]; exact Nat.le_refl _)
end Go.Proofs.YtclainfdeghgnaaGreatDoor
