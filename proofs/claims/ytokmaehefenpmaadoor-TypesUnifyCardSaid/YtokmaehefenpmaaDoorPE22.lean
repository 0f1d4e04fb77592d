/- The document's Unify. -/
import Derived.Deep.LoopGhost
import Derived.Test.YtokmaehefenpmaaDoorPE20
import Derived.Test.YtokmaehefenpmaaDoorPE21
namespace Go.Proofs.YtokmaehefenpmaaDoor
open Go.RowKit Go.ChangeMaps Go.Proofs.YtokmaehefenpmaaDoor.Nm
set_option linter.unusedSimpArgs false
theorem vars_nums {t : Ty} (h : validB true t = true) (x : Int) : x ∈ distinctI (varsOf t) ↔ x ∈ t.nums := by
  constructor
  · intro hx
    have h0 := (open_vars h x hx).1
    obtain ⟨v, rfl⟩ := Int.eq_ofNat_of_zero_le h0
    rw [nums_occ, ← vars_has]
    exact List.contains_iff_mem.2 hx
  · intro hx
    have h0 := (nums_open h x hx).1
    obtain ⟨v, rfl⟩ := Int.eq_ofNat_of_zero_le h0
    rw [nums_occ, ← vars_has] at hx
    exact List.contains_iff_mem.1 hx
theorem most1_none {t : Ty} (h : validB true t = true) {ns : List Int} (hm : ∀ x, x ∈ ns ↔ x ∈ t.nums) (M : Int) (hn : ns.length = 0) : most1 M t = M := by
  obtain ⟨h1, -, h3⟩ := foldl_max (distinctI (varsOf t)) M
  have h4 := h3 M (Int.le_refl _) fun x hx => by
    have := (hm x).2 ((vars_nums h x).1 hx)
    rw [List.length_eq_zero_iff.1 hn] at this
    cases this
  have e : most1 M t = (distinctI (varsOf t)).foldl max M := rfl
  omega
theorem most1_last {t : Ty} (h : validB true t = true) {ns : List Int} (hm : ∀ x, x ∈ ns ↔ x ∈ t.nums) (hs : Srt ns.length ns) (M : Int) {j : Nat} (hj : ns.length = j + 1) {z : Int} (hz : ns[j]? = some z) : most1 M t = max M z := by
  obtain ⟨h1, h2, h3⟩ := foldl_max (distinctI (varsOf t)) M
  have hzm := (vars_nums h z).2 ((hm z).1 (List.mem_of_getElem? hz))
  have h4 := h2 z hzm
  have h5 := h3 (max M z) (by omega) fun x hx => by
    obtain ⟨i, hi⟩ := List.mem_iff_getElem?.1 ((hm x).2 ((vars_nums h x).1 hx))
    have hil := (List.getElem?_eq_some_iff.1 hi).1
    by_cases e : i = j
    · subst e
      rw [hz] at hi
      cases hi
      omega
    · have := hs i j x z (by omega) (by omega) hi hz
      omega
  have e : most1 M t = (distinctI (varsOf t)).foldl max M := rfl
  omega
theorem eqs_one {w : World} {p : Nat} {k : Int} {s : ByteArray} {n : Int} {A : Option Addr} {l c : Nat} {k' : Int} {s' : ByteArray} {n' : Int} {A' : Option Addr} {l' c' : Nat} {t u : Ty} (hp : w.heap[p]? = some (.cells (cell8 k s n A l c k' s' n' A' l' c') 58 (0, 0))) {D : Nat → Prop} (ht : TyAt w D t (cell4 k s n A l c)) (hu : TyAt w D u (cell4 k' s' n' A' l' c')) : EqsAt w Any [(t, u)] (some ⟨p, 0, none⟩) 1 1 :=
  (src_one (B := w.heap.size) hp (ht.low.weak fun _ h => h.2) (hu.low.weak fun _ h => h.2)).eqs rfl (Nat.le_refl _) (by unfold maxLen; omega)
/-- What the document's Unify hands back. -/
def UIPost (w : World) (es : Eqs) (r : Except Int (List Ty)) (e : Ending) (w' : World) : Prop := Below w.heap.size w w' ∧ ((¬ OpenE es ∧ e = .returned (.tuple #[.slice none 0 0, .int .i64 30])) ∨ OpenE es ∧ match r with
  | .error c => e = .returned (.tuple #[.slice none 0 0, .int .i64 c])
  | .ok s => ∃ A l c, e = .returned (.tuple #[.slice A l c, .int .i64 0]) ∧ TysAt w' Any s A l c)
theorem UIPost.no {w w' : World} {es : Eqs} {r : Except Int (List Ty)} (h : ¬ OpenE es) (hb : Below w.heap.size w w') : UIPost w es r (.returned (.tuple #[.slice none 0 0, .int .i64 30])) w' := ⟨hb, .inl ⟨h, rfl⟩⟩
theorem UIPost.err {w w' : World} {es : Eqs} {r : Except Int (List Ty)} {c : Int} (h : OpenE es) (hr : r = .error c) (hb : Below w.heap.size w w') : UIPost w es r (.returned (.tuple #[.slice none 0 0, .int .i64 c])) w' := by subst hr; exact ⟨hb, .inr ⟨h, rfl⟩⟩
theorem UIPost.yes {w w' : World} {es : Eqs} {r : Except Int (List Ty)} {s : List Ty} {A : Option Addr} {l c : Nat} (h : OpenE es) (hr : r = .ok s) (hb : Below w.heap.size w w') (ht : TysAt w' Any s A l c) : UIPost w es r (.returned (.tuple #[.slice A l c, .int .i64 0])) w' := by subst hr; exact ⟨hb, .inr ⟨h, A, l, c, rfl, ht⟩⟩
theorem step1_errs {m : Nat} {a b : Ty} {sol : List Ty} {e : Int} (hg : Good m sol) (ha : FineV m a) (hb : FineV m b) (h : step1 a b sol = .error e) : e = 2 ∨ e = 31 ∨ e = 32 :=
  steps_err (Steps.err (rest := []) h) hg (fun p hp => by simp at hp; subst hp; exact ⟨ha, hb⟩) e rfl
theorem steps_cons {k : Nat} {a b : Ty} {rest : Eqs} {sol : List Ty} {r : Except Int (List Ty)} (h : Steps k ((a, b) :: rest) sol r) : (∃ e, step1 a b sol = .error e ∧ r = .error e) ∨ ∃ next sol' k', step1 a b sol = .ok (next, sol') ∧ Steps k' (next ++ rest) sol' r ∧ k' < k := by
  cases h with
  | err h1 => exact .inl ⟨_, h1, rfl⟩
  | go h1 h2 => exact .inr ⟨_, _, _, h1, h2, Nat.lt_succ_self _⟩
theorem range_succ_map (j : Nat) : (List.range (j + 1)).map varT = (List.range j).map varT ++ [varT j] := by rw [List.range_succ, List.map_append]; rfl
set_option maxHeartbeats 16000000 in
set_option maxRecDepth 100000 in
theorem UnifyI_any (es : Eqs) (k : Nat) (r : Except Int (List Ty)) (hst : OpenE es → Steps k es (start (mOf es)) r) (A : Option Addr) (l c : Nat) (w : World) (D : Nat → Prop) (h : EqsAt w D es A l c) :
    Calls Tryd.prog 42 #[.slice A l c] w (UIPost w es r) := by
  have HT := Lib.hid h
  have HL := Lib.hid h.len
  have HST := Lib.hid hst
  have hcm := h.cap
  have hmx := h.max
  unfold maxLen at hmx
  clear h hst
  have hb := Below.refl w.heap.size w
  go_enter Tryd.func42, Tryd.ntmps42
  go_upto_region 0 with (fail)
  apply wp_region_lit
  (with_reducible refine wl_k ?_ ?_); exact rfl; intro K hK; go_simp; refine hK _ ?_; clear hK K
  (with_reducible refine wl_k ?_ ?_); exact rfl; intro K hK; go_simp; refine hK _ ?_; clear hK K
  go_upto_region 1 with (fail)
  apply wp_region_lit
  (with_reducible refine wl_k ?_ ?_); exact rfl; intro K hK; go_simp; refine hK _ ?_; clear hK K
  obtain ⟨M0, hM0⟩ : ∃ M : Int, M = -1 := ⟨_, rfl⟩
  have HM0 := Lib.hid hM0
  clear hM0
  go_wp2_with fail
  go_loopw [4, 5] (fun m i wr => ∃ j : Nat, j ≤ l ∧ i = .int .i64 (j : Int) ∧ (∃ M : Int, m = .int .i64 M ∧ Hid (M = mostE (es.take j))) ∧ Hid (OpenE (es.take j)) ∧ Below w.heap.size w wr) (fun _ i _ => l - (intOf i).toNat)
  case atStart => exact ⟨0, by omega, rfl, ⟨_, rfl, Lib.hid rfl⟩, Lib.hid (fun p hp => by simp at hp), hb⟩
  case round =>
    clear hb
    obtain ⟨j, hj, rfl, ⟨M, rfl, HM⟩, HO, hb⟩ := hrel
    obtain ⟨wo, rfl⟩ : ∃ wo, wo = wr := ⟨_, rfl⟩
    go_upto_region 3 with (fail)
    by_cases hlt : j < l
    · have hltI : (j : Int) < (l : Int) := by omega
      obtain ⟨t, u, hi⟩ := HT.out.ex hlt
      obtain ⟨bl, off, k1, s1, n1, A1, l1, c1, k2, s2, n2, A2, l2, c2, rfl, -, hr1, hr2, ht, hu⟩ := (HT.out.old hb).low.get hi (C := fun b => wo.heap.size ≤ b) (fun b h1 h2 => by have := h1.2; omega)
      have HR1 : Hid (∀ w', Below wo.heap.size wo w' → RowAt w' 24 ⟨bl, off + j * 8, none⟩ (cell4 k1 s1 n1 A1 l1 c1)) := Lib.hid fun w' hw => hr1 w' (Keep.of hw)
      have HR2 : Hid (∀ w', Below wo.heap.size wo w' → RowAt w' 24 ⟨bl, off + j * 8 + 4, none⟩ (cell4 k2 s2 n2 A2 l2 c2)) := Lib.hid fun w' hw => hr2 w' (Keep.of hw)
      have HTT := Lib.hid ht
      have HUU := Lib.hid hu
      have HI := Lib.hid hi
      clear hi hr1 hr2 ht hu
      apply wp_region_lit
      (with_reducible refine wl_k ?_ ?_); exact rfl; intro K hK; go_simp; refine hK _ ?_; clear hK K
      (with_reducible refine wl_k ?_ ?_); exact rfl; intro K hK; go_simp; refine hK _ ?_; clear hK K
      (with_reducible refine wl_k ?_ ?_); exact rfl; intro K hK; go_simp; refine hK _ ?_; clear hK K
      (with_reducible refine wl_k ?_ ?_); exact rfl; intro K hK; go_simp; refine hK _ ?_; clear hK K
      have hz := Below.refl wo.heap.size wo
      go_upto_region 5 with (fail)
      apply wp_region_lit
      (with_reducible refine wl_k ?_ ?_); exact rfl; intro K hK; go_simp; refine hK _ ?_; clear hK K
      go_wp2_with fail
      go_loopw [4, 6] (fun m i wr2 => ∃ j2 : Nat, j2 ≤ 2 ∧ i = .int .i64 (j2 : Int) ∧ (∃ M2 : Int, m = .int .i64 M2 ∧ Hid (M2 = moL M t u j2)) ∧ Hid (vaL t u j2) ∧ Below wo.heap.size wo wr2) (fun _ i _ => 2 - (intOf i).toNat)
      case atStart => exact ⟨0, by omega, rfl, ⟨_, rfl, Lib.hid rfl⟩, Lib.hid ⟨fun h => by omega, fun h => by omega⟩, hz⟩
      case round =>
        clear hz
        obtain ⟨j2, hj2, rfl, ⟨M2, rfl, HM2⟩, HV2, hz⟩ := hrel
        obtain ⟨wr2, rfl⟩ : ∃ wr2, wr2 = wr := ⟨_, rfl⟩
        go_upto_region 6 with (fail)
        by_cases hlt2 : j2 < 2
        · have hltI2 : (j2 : Int) < 2 := by omega
          obtain ⟨x, k3, s3, n3, A3, l3, c3, hx, hjx, hmo, hva, hxx⟩ := two_step HTT.out HUU.out M hlt2
          have HRX : Hid (∀ w', Below wo.heap.size wo w' → RowAt w' 24 ⟨bl, off + j * 8 + j2 * 4, none⟩ (cell4 k3 s3 n3 A3 l3 c3)) := Lib.hid fun w' hw => by
            rcases hjx with ⟨rfl, e⟩ | ⟨rfl, e⟩
            · rw [e]; exact HR1.out w' hw
            · rw [e]; exact HR2.out w' hw
          have HX := Lib.hid (hx.old hz)
          have HMO := Lib.hid hmo
          have HVA := Lib.hid hva
          have HXX := Lib.hid hxx
          clear hx hjx hmo hva hxx
          apply wp_region_lit
          (with_reducible refine wl_k ?_ ?_); exact rfl; intro K hK; go_simp; refine hK _ ?_; clear hK K
          (with_reducible refine wl_k ?_ ?_); exact rfl; intro K hK; go_simp; refine hK _ ?_; clear hK K
          have hy := Below.refl wr2.heap.size wr2
          have HC := Lib.hid (OpenI_any x wr2 _ _ HX.out)
          obtain ⟨vb, hvb⟩ : ∃ vb, vb = validB true x := ⟨_, rfl⟩
          rw [← hvb] at HC
          have HVB := Lib.hid hvb
          clear hvb
          go_upto_region 8 with (fail)
          apply wp_region_lit
          (with_reducible refine wl_k ?_ ?_); exact rfl; intro K hK; go_simp; refine hK _ ?_; clear hK K
          (with_reducible refine wl_k ?_ ?_); exact rfl; intro K hK; go_simp; refine hK _ ?_; clear hK K
          (with_reducible refine wl_k ?_ ?_); exact rfl; intro K hK; go_simp; refine hK _ ?_; clear hK K
          (with_reducible refine wl_k ?_ ?_); exact rfl; intro K hK; go_simp; refine hK _ ?_; clear hK K
          (with_reducible refine wl_k ?_ ?_); exact rfl; intro K hK; go_simp; refine hK _ ?_; clear hK K
          ((with_reducible apply wl_rowG); exact rfl; exact rfl; exact HRX.out _ hz)
          (with_reducible refine wl_ck ?_ ?_); exact rfl; intro K hK; go_simp; refine ⟨_, _, ⟨rfl, rfl⟩, hK _ _ ⟨_, HC.out, ?_⟩⟩; clear hK K; rintro e w7 ⟨rfl, hb7⟩; refine ⟨_, rfl, ?_⟩; simp only [Zq]
          replace hy := hy.trans (hb7.mono hy.size); clear hb7
          (with_reducible refine wl_k ?_ ?_); exact rfl; intro K hK; go_simp; refine hK _ ?_; clear hK K
          clear HC
          cases vb with
          | false =>
            have hbb := hb.trans ((hz.trans (hy.mono hz.size)).mono hb.size)
            go_upto_region 9 with (fail)
            apply wp_region_lit
            (with_reducible refine wl_k ?_ ?_); exact rfl; intro K hK; go_simp; refine hK _ ?_; clear hK K
            (with_reducible refine wl_k ?_ ?_); exact rfl; intro K hK; go_simp; refine hK _ ?_; clear hK K
            go_wp2_with fail
            go_ret2
            refine UIPost.no (fun ho => ?_) hbb
            have h1 := ho (t, u) (List.mem_of_getElem? HI.out)
            have h2 := HVB.out
            rcases HXX.out with e | e
            · rw [e, h1.1] at h2; cases h2
            · rw [e, h1.2] at h2; cases h2
          | true =>
            have hzy : Below wo.heap.size wo w7 := hz.trans (hy.mono hz.size)
            have HC := Lib.hid (VarsS_any x (by have := open_small HVB.out.symm; omega) w7 _ _ (HX.out.old hy))
            go_upto_region 10 with (fail)
            apply wp_region_lit
            (with_reducible refine wl_k ?_ ?_); exact rfl; intro K hK; go_simp; refine hK _ ?_; clear hK K
            (with_reducible refine wl_k ?_ ?_); exact rfl; intro K hK; go_simp; refine hK _ ?_; clear hK K
            (with_reducible refine wl_k ?_ ?_); exact rfl; intro K hK; go_simp; refine hK _ ?_; clear hK K
            (with_reducible refine wl_k ?_ ?_); exact rfl; intro K hK; go_simp; refine hK _ ?_; clear hK K
            (with_reducible refine wl_k ?_ ?_); exact rfl; intro K hK; go_simp; refine hK _ ?_; clear hK K
            ((with_reducible apply wl_rowG); exact rfl; exact rfl; exact HRX.out _ hzy)
            (with_reducible refine wl_ck ?_ ?_); exact rfl; intro K hK; go_simp; refine ⟨_, _, ⟨rfl, rfl⟩, hK _ _ ⟨_, HC.out, ?_⟩⟩; clear hK K; rintro e w8 ⟨A7, l7, c7, ns, rfl, hown, hmem, hnl, hsrt, hb7⟩; refine ⟨_, rfl, ?_⟩; simp only [Zq]
            obtain ⟨A7', l7', c7', hce, hix⟩ := hown.ix
            cases hce
            have HIX := Lib.hid hix
            have HMM := Lib.hid hmem
            have HNL := Lib.hid hnl
            have HSR := Lib.hid hsrt
            clear hix hmem hnl hsrt hown
            replace hzy := hzy.trans (hb7.mono hzy.size); clear hb7
            (with_reducible refine wl_k ?_ ?_); exact rfl; intro K hK; go_simp; refine hK _ ?_; clear hK K
            clear HC
            have HL7 := Lib.hid HIX.out.1
            have hl7m : l7 ≤ 9223372036854775807 := by have h1 := HIX.out.2.1; have h2 := HIX.out.2.2.1; unfold maxLen at h2; omega
            go_upto_region 11 with (fail)
            by_cases h70 : l7 = 0
            · subst h70
              have HMN : Hid (M2 = moL M t u (j2 + 1)) := Lib.hid (by rw [HMO.out, ← HM2.out, most1_none HVB.out.symm HMM.out M2 HL7.out])
              apply wp_region_lit
              (with_reducible refine wl_k ?_ ?_); exact rfl; intro K hK; go_simp; refine hK _ ?_; clear hK K
              (with_reducible refine wl_k ?_ ?_); exact rfl; intro K hK; go_simp; refine hK _ ?_; clear hK K
              (with_reducible refine wl_k ?_ ?_); exact rfl; intro K hK; go_simp; refine hK _ ?_; clear hK K
              go_wp2_with fail
              go_roundw
              case rel => exact ⟨j2 + 1, by omega, by go_num, ⟨_, rfl, HMN⟩, Lib.hid (HVA.out HV2.out HVB.out.symm), hzy⟩
              case measure => simp [intOf]; omega
            · have h7I : (l7 : Int) > 0 := by omega
              obtain ⟨l8, hq1, hq2⟩ : ∃ l8, l8 + 1 ≤ l7 ∧ l7 ≤ l8 + 1 := ⟨l7 - 1, by omega, by omega⟩
              have hi1 : (l7 : Int) - 1 = (l8 : Int) := by omega
              have hl8I : (l8 : Int) < (l7 : Int) := by omega
              have hl8N : l8 < l7 := by omega
              obtain ⟨z, hz3⟩ : ∃ z, ns[l8]? = some z := ⟨_, List.getElem?_eq_getElem (by rw [HL7.out]; omega)⟩
              obtain ⟨b7, o7, rfl, hcell⟩ := HIX.out.2.2.2 l8 z hz3
              have HMN : Hid (max M2 z = moL M t u (j2 + 1)) := Lib.hid (by rw [HMO.out, ← HM2.out, most1_last HVB.out.symm HMM.out HSR.out M2 (j := l8) (by rw [HL7.out]; omega) hz3])
              have HCE := Lib.hid (int_at hcell)
              have hwr8 : IntKind.i64.wrap (l8 : Int) = (l8 : Int) := IntWalk.i64_in _ (by omega)
              clear hz3 hcell
              apply wp_region_lit
              (with_reducible refine wl_k ?_ ?_); exact rfl; intro K hK; go_simp; refine hK _ ?_; clear hK K
              (with_reducible refine wl_k ?_ ?_); exact rfl; intro K hK; go_simp; refine hK _ ?_; clear hK K
              (with_reducible refine wl_k ?_ ?_); exact rfl; intro K hK; go_simp; refine hK _ ?_; clear hK K
              go_upto_region 12 with (fail)
              apply wp_region_lit
              (with_reducible refine wl_k ?_ ?_); exact rfl; intro K hK; go_simp; refine hK _ ?_; clear hK K
              (with_reducible refine wl_k ?_ ?_); exact rfl; intro K hK; go_simp; refine hK _ ?_; clear hK K
              (with_reducible refine wl_k ?_ ?_); exact rfl; intro K hK; go_simp; refine hK _ ?_; clear hK K
              (with_reducible refine wl_k ?_ ?_); exact rfl; intro K hK; go_simp; refine hK _ ?_; clear hK K
              (with_reducible refine wl_k ?_ ?_); exact rfl; intro K hK; go_simp; refine hK _ ?_; clear hK K
              (with_reducible refine wl_k ?_ ?_); exact rfl; intro K hK; go_simp; refine hK _ ?_; clear hK K
              ((with_reducible apply wl_oneG); exact rfl; exact rfl; exact HCE.out)
              (with_reducible refine wl_k ?_ ?_); exact rfl; intro K hK; go_simp; refine hK _ ?_; clear hK K
              (with_reducible refine wl_k ?_ ?_); exact rfl; intro K hK; go_simp; refine hK _ ?_; clear hK K
              go_wp2_with fail
              go_roundw
              case rel => exact ⟨j2 + 1, by omega, by go_num, ⟨_, rfl, HMN⟩, Lib.hid (HVA.out HV2.out HVB.out.symm), hzy⟩
              case measure => simp [intOf]; omega
        · have hltI2 : ¬ (j2 : Int) < 2 := by omega
          have hj22 : j2 = 2 := by omega
          subst hj22
          apply wp_region_lit
          (with_reducible refine wl_k ?_ ?_); exact rfl; intro K hK; go_simp; refine hK _ ?_; clear hK K
          (with_reducible refine wl_k ?_ ?_); exact rfl; intro K hK; go_simp; refine hK _ ?_; clear hK K
          go_wp2_with fail
          go_roundw
          case rel => exact ⟨j + 1, by omega, by go_num, ⟨_, rfl, Lib.hid (by rw [most_next HI.out, HM2.out, ← HM.out]; rfl)⟩, Lib.hid (open_next HI.out HO.out (HV2.out.1 (by omega)) (HV2.out.2 (by omega))), hb.trans (hz.mono hb.size)⟩
          case measure => simp [intOf]; omega
    · have hltI : ¬ (j : Int) < (l : Int) := by omega
      apply wp_region_lit
      (with_reducible refine wl_k ?_ ?_); exact rfl; intro K hK; go_simp; refine hK _ ?_; clear hK K
      (with_reducible refine wl_k ?_ ?_); exact rfl; intro K hK; go_simp; refine hK _ ?_; clear hK K
      (with_reducible refine wl_k ?_ ?_); exact rfl; intro K hK; go_simp; refine hK _ ?_; clear hK K
      (with_reducible refine wl_k ?_ ?_); exact rfl; intro K hK; go_simp; refine hK _ ?_; clear hK K
      have HM9 : Hid (M = mostE es) := Lib.hid (by rw [HM.out, List.take_of_length_le (by rw [HL.out]; omega)])
      have HO9 : Hid (OpenE es) := Lib.hid (by have := HO.out; rwa [List.take_of_length_le (by rw [HL.out]; omega)] at this)
      clear HM HO hltI hlt hj
      obtain ⟨m, hm⟩ : ∃ m, m = mOf es := ⟨_, rfl⟩
      have HMM : Hid (m = mOf es) := Lib.hid hm
      have HM1 : Hid (M + 1 = (m : Int)) := Lib.hid (by rw [HM9.out, hm]; exact (mOf_eq HO9.out).1)
      have hm40 : m ≤ 40 := by rw [hm]; exact (mOf_eq HO9.out).2
      have HFE : Hid (FineE m es) := Lib.hid (by rw [hm]; exact fine_open HO9.out)
      clear hm
      have HBW := Lib.hid hb
      obtain ⟨B2, hB2⟩ : ∃ B2, B2 = wo.heap.size := ⟨_, rfl⟩
      have HB2 := Lib.hid hB2
      have HOW := Lib.hid (OwnT.nil wo B2)
      have hz : Below B2 wo wo := Below.refl _ _
      clear hb hB2
      go_upto_region 13 with (fail)
      apply wp_region_lit
      (with_reducible refine wl_k ?_ ?_); exact rfl; intro K hK; go_simp; refine hK _ ?_; clear hK K
      go_wp2_with fail
      go_loopw [8, 9] (fun v i wr => ∃ (j : Nat) (A' : Option Addr) (l' c' : Nat), j ≤ m ∧ i = .int .i64 (j : Int) ∧ v = .slice A' l' c' ∧ Hid (OwnT wr B2 (.slice A' l' c') ((List.range j).map varT)) ∧ Below B2 wo wr) (fun _ i _ => m - (intOf i).toNat)
      case atStart => exact ⟨0, none, 0, 0, by omega, rfl, rfl, HOW, hz⟩
      case round =>
        clear HOW hz
        obtain ⟨v, A9, l9, c9, hv, rfl, rfl, HOW, hz⟩ := hrel
        have hzs := hz.size
        have hB2w : B2 ≤ wr.heap.size := by have := HB2.out; omega
        go_upto_region 15 with (fail)
        by_cases hlt : v < m
        · have hltI : (v : Int) ≤ M := by have := HM1.out; omega
          have HTK := Lib.hid (range_succ_map v)
          have HLN : Hid (((List.range v).map varT).length ≤ 1000000) := Lib.hid (by simp; omega)
          have HVT : Hid (v ≤ 60) := Lib.hid (by omega)
          have hxr := Below.refl wr.heap.size wr
          apply wp_region_lit
          (with_reducible refine wl_k ?_ ?_); exact rfl; intro K hK; go_simp; refine hK _ ?_; clear hK K
          (with_reducible refine wl_k ?_ ?_); exact rfl; intro K hK; go_simp; refine hK _ ?_; clear hK K
          (with_reducible refine wl_k ?_ ?_); exact rfl; intro K hK; go_simp; refine hK _ ?_; clear hK K
          go_upto_region 17 with (fail)
          apply wp_region_lit
          (with_reducible refine wl_k ?_ ?_); exact rfl; intro K hK; go_simp; refine hK _ ?_; clear hK K
          (with_reducible refine wl_k ?_ ?_); exact rfl; intro K hK; go_simp; refine hK _ ?_; clear hK K
          refine wl_val rfl (ex_build 24 _ rfl (L := [(0, .int .i64 12), (2, .int .i64 (v : Int))]) rfl (built24w (v : Int))) ?_
          simp only [Zq]
          (with_reducible refine wl_bs rfl ?_); intro X5 q3 hbn hlq3 hq3; replace hxr := hxr.trans (hbn.mono hxr.size); clear hbn; simp only [Zq]
          have hx5 := hxr.size
          replace hz := hz.trans (hxr.mono (by omega))
          refine wl_push rfl _ _ rfl rfl rfl (HOW.out.old hxr) (var_at _ _ v HVT.out) hq3 HLN.out (by have := hz.size; omega) ?_
          intro A8 l8 c8 w8 hown hk8 hbl
          have hz8 := hbl B2 wo (fun b e => ((HOW.out.old hxr).lt b e).1) (by have := hz.size; omega) hz
          rw [← HTK.out] at hown
          have HO8 := Lib.hid hown
          clear hown hk8 hbl hq3
          simp only [Zq]
          (with_reducible refine wl_k ?_ ?_); exact rfl; intro K hK; go_simp; refine hK _ ?_; clear hK K
          clear hz hxr HOW HTK HLN HVT hzs hltI hx5
          go_wp2_with fail
          go_roundw
          case rel => exact ⟨v + 1, _, _, _, by omega, by go_num, rfl, HO8, hz8⟩
          case measure => simp [intOf]; omega
        · have hltI : ¬ (v : Int) ≤ M := by have := HM1.out; omega
          obtain rfl : v = m := by omega
          obtain ⟨A8, l8, c8, he, h8⟩ := HOW.out.at
          cases he
          have hbb : Below w.heap.size w wr := HBW.out.trans (hz.mono (by have := HB2.out; have := HBW.out.size; omega))
          have HTY0 : Hid (TysAt wr Any (start v) A9 l9 c9) := Lib.hid (h8.weak fun _ _ => trivial)
          have HST0 : Hid (Steps k (es.drop 0) (start v) r) := Lib.hid (by rw [HMM.out]; exact HST.out HO9.out)
          have HG0 := Lib.hid (start_good v)
          apply wp_region_lit
          (with_reducible refine wl_k ?_ ?_); exact rfl; intro K hK; go_simp; refine hK _ ?_; clear hK K
          (with_reducible refine wl_k ?_ ?_); exact rfl; intro K hK; go_simp; refine hK _ ?_; clear hK K
          (with_reducible refine wl_k ?_ ?_); exact rfl; intro K hK; go_simp; refine hK _ ?_; clear hK K
          clear h8 HOW hz hltI hlt hzs hv
          go_upto_region 18 with (fail)
          apply wp_region_lit
          (with_reducible refine wl_k ?_ ?_); exact rfl; intro K hK; go_simp; refine hK _ ?_; clear hK K
          go_wp2_with fail
          go_loopw [8, 10] (fun sv i wr => ∃ (j : Nat) (sol : List Ty) (k' : Nat) (A' : Option Addr) (l' c' : Nat), j ≤ l ∧ i = .int .i64 (j : Int) ∧ sv = .slice A' l' c' ∧ Hid (TysAt wr Any sol A' l' c') ∧ Hid (Good v sol) ∧ Hid (Steps k' (es.drop j) sol r) ∧ Below w.heap.size w wr) (fun _ i _ => l - (intOf i).toNat)
          case atStart => exact ⟨0, _, _, _, _, _, Nat.zero_le _, rfl, rfl, HTY0, HG0, HST0, hbb⟩
          case round =>
            clear HTY0 HG0 HST0 hbb
            obtain ⟨j, sol, k1, A6, l6, c6, hj, rfl, rfl, HTY, HGS, HS1, hb⟩ := hrel
            obtain ⟨wo2, rfl⟩ : ∃ wo2, wo2 = wr := ⟨_, rfl⟩
            go_upto_region 19 with (fail)
            by_cases hlt : j < l
            · have hltI : (j : Int) < (l : Int) := by omega
              obtain ⟨t, u, hi⟩ := HT.out.ex hlt
              obtain ⟨bl, off, ka, sa, na, B1, m1, e1, kb, sb, nb, B3, m3, e3, rfl, hr8, -, -, ht, hu⟩ := (HT.out.old hb).low.get hi (C := fun b => wo2.heap.size ≤ b) (fun b h1 h2 => by have := h1.2; omega)
              have HR8 := Lib.hid (hr8 wo2 (Keep.refl _ _))
              have hmem := List.mem_of_getElem? hi
              have hft := HFE.out _ hmem
              have hvt := HO9.out _ hmem
              have HFF : Hid (FineE v [(t, u)]) := Lib.hid (fun p hp => by simp at hp; subst hp; exact hft)
              have HSM : Hid (SmallE v sol [(t, u)]) := Lib.hid (SmallE.start hft.1 hft.2 (open_small hvt.1) (open_small hvt.2))
              have HSQ : Hid (Steps k1 ([(t, u)] ++ es.drop (j + 1)) sol r) := Lib.hid (by
                have := HS1.out
                obtain ⟨h1, h2⟩ := List.getElem?_eq_some_iff.1 hi
                rw [List.drop_eq_getElem_cons h1, h2] at this
                exact this)
              have HTT := Lib.hid ht
              have HUU := Lib.hid hu
              clear hi hr8 hmem hft hvt ht hu HS1
              apply wp_region_lit
              (with_reducible refine wl_k ?_ ?_); exact rfl; intro K hK; go_simp; refine hK _ ?_; clear hK K
              (with_reducible refine wl_k ?_ ?_); exact rfl; intro K hK; go_simp; refine hK _ ?_; clear hK K
              (with_reducible refine wl_k ?_ ?_); exact rfl; intro K hK; go_simp; refine hK _ ?_; clear hK K
              (with_reducible refine wl_k ?_ ?_); exact rfl; intro K hK; go_simp; refine hK _ ?_; clear hK K
              go_upto_region 21 with (fail)
              apply wp_region_lit
              (with_reducible refine wl_k ?_ ?_); exact rfl; intro K hK; go_simp; refine hK _ ?_; clear hK K
              (with_reducible refine wl_k ?_ ?_); exact rfl; intro K hK; go_simp; refine hK _ ?_; clear hK K
              (with_reducible refine wl_k ?_ ?_); exact rfl; intro K hK; go_simp; refine hK _ ?_; clear hK K
              ((with_reducible apply wl_rowG); exact rfl; exact rfl; exact HR8.out)
              (with_reducible refine wl_bs1 rfl ?_); intro X1 g hbn hlg hg
              have HEQ := Lib.hid (eqs_one hg (HTT.out.old hbn) (HUU.out.old hbn))
              have HTY1 := Lib.hid (HTY.out.old hbn)
              replace hb := hb.trans (hbn.mono hb.size); clear hbn
              clear hg hlg
              simp only [Zq]
              (with_reducible refine wl_k ?_ ?_); exact rfl; intro K hK; go_simp; refine hK _ ?_; clear hK K
              clear HTT HUU HR8 HTY
              go_wp2_with fail
              go_loopg [8, 11, 12] k1 (fun gk sv tv ev wr => ∃ (todo : Eqs) (sol : List Ty) (A1 : Option Addr) (l1 c1 : Nat) (A2 : Option Addr) (l2 c2 : Nat), tv = .slice A1 l1 c1 ∧ sv = .slice A2 l2 c2 ∧ Hid (EqsAt wr Any todo A1 l1 c1) ∧ Hid (TysAt wr Any sol A2 l2 c2) ∧ Hid (Good v sol) ∧ Hid (FineE v todo) ∧ Hid (SmallE v sol todo) ∧ Hid (Steps gk (todo ++ es.drop (j + 1)) sol r) ∧ Below w.heap.size w wr)
              case atStart => exact ⟨_, _, _, _, _, _, _, _, rfl, rfl, HEQ, HTY1, HGS, HFF, HSM, HSQ, hb⟩
              case round =>
                clear HEQ HTY1 HGS HFF HSM HSQ hb
                obtain ⟨todo, sol, A1, l1, c1, A2, l2, c2, rfl, rfl, HEQ, HTY, HGS, HFF, HSM, HSQ, hb⟩ := hrel
                obtain ⟨wo3, rfl⟩ : ∃ wo3, wo3 = wr := ⟨_, rfl⟩
                have hl1m : l1 ≤ 9223372036854775807 := by have h1 := HEQ.out.cap; have h2 := HEQ.out.max; unfold maxLen at h2; omega
                have HL1 := Lib.hid HEQ.out.len
                go_upto_region 22 with (fail)
                cases todo with
                | nil =>
                  obtain rfl : l1 = 0 := by rw [← HL1.out]; rfl
                  have HSN : Hid (Steps gk (es.drop (j + 1)) sol r) := Lib.hid HSQ.out
                  apply wp_region_lit
                  (with_reducible refine wl_k ?_ ?_); exact rfl; intro K hK; go_simp; refine hK _ ?_; clear hK K
                  (with_reducible refine wl_k ?_ ?_); exact rfl; intro K hK; go_simp; refine hK _ ?_; clear hK K
                  (with_reducible refine wl_k ?_ ?_); exact rfl; intro K hK; go_simp; refine hK _ ?_; clear hK K
                  clear HSQ HL1 HSM HFF HEQ
                  go_wp2_with fail
                  go_roundw
                  case rel => exact ⟨j + 1, _, _, _, _, _, by omega, by go_num, rfl, HTY, HGS, HSN, hb⟩
                  case measure => simp [intOf]; omega
                | cons ab rest =>
                  obtain ⟨a, b⟩ := ab
                  have hl1I : (l1 : Int) > 0 := by have := HL1.out; simp only [List.length_cons] at this; omega
                  have HAB := Lib.hid (HFF.out (a, b) (by simp))
                  have HC := Lib.hid (step_any hm40 HGS.out HAB.out.1 HAB.out.2 HSM.out wo3 A1 l1 c1 HEQ.out A2 l2 c2 HTY.out)
                  apply wp_region_lit
                  (with_reducible refine wl_k ?_ ?_); exact rfl; intro K hK; go_simp; refine hK _ ?_; clear hK K
                  (with_reducible refine wl_k ?_ ?_); exact rfl; intro K hK; go_simp; refine hK _ ?_; clear hK K
                  (with_reducible refine wl_k ?_ ?_); exact rfl; intro K hK; go_simp; refine hK _ ?_; clear hK K
                  go_upto_region 23 with (fail)
                  apply wp_region_lit
                  (with_reducible refine wl_k ?_ ?_); exact rfl; intro K hK; go_simp; refine hK _ ?_; clear hK K
                  go_upto_region 24 with (fail)
                  apply wp_region_lit
                  (with_reducible refine wl_k ?_ ?_); exact rfl; intro K hK; go_simp; refine hK _ ?_; clear hK K
                  (with_reducible refine wl_k ?_ ?_); exact rfl; intro K hK; go_simp; refine hK _ ?_; clear hK K
                  (with_reducible refine wl_ck ?_ ?_); exact rfl; intro K hK; go_simp; refine ⟨_, _, ⟨rfl, rfl⟩, hK _ _ ⟨_, HC.out, ?_⟩⟩; clear hK K; rintro e w9 ⟨hb9, A3, l3, c3, A4, l4, c4, err, rfl, hres⟩; refine ⟨_, rfl, ?_⟩; simp only [Zq]
                  have HRS := Lib.hid hres
                  clear hres
                  replace hb := hb.trans (hb9.mono hb.size); clear hb9
                  (with_reducible refine wl_k ?_ ?_); exact rfl; intro K hK; go_simp; refine hK _ ?_; clear hK K
                  (with_reducible refine wl_k ?_ ?_); exact rfl; intro K hK; go_simp; refine hK _ ?_; clear hK K
                  (with_reducible refine wl_k ?_ ?_); exact rfl; intro K hK; go_simp; refine hK _ ?_; clear hK K
                  (with_reducible refine wl_k ?_ ?_); exact rfl; intro K hK; go_simp; refine hK _ ?_; clear hK K
                  (with_reducible refine wl_k ?_ ?_); exact rfl; intro K hK; go_simp; refine hK _ ?_; clear hK K
                  (with_reducible refine wl_k ?_ ?_); exact rfl; intro K hK; go_simp; refine hK _ ?_; clear hK K
                  (with_reducible refine wl_k ?_ ?_); exact rfl; intro K hK; go_simp; refine hK _ ?_; clear hK K
                  clear HC HEQ HTY
                  go_upto_region 25 with (fail)
                  by_cases he : err = 0
                  · subst he
                    apply wp_region_lit
                    (with_reducible refine wl_k ?_ ?_); exact rfl; intro K hK; go_simp; refine hK _ ?_; clear hK K
                    (with_reducible refine wl_k ?_ ?_); exact rfl; intro K hK; go_simp; refine hK _ ?_; clear hK K
                    rcases HRS.out with hx | ⟨-, next, sol', hx, heq, hty⟩
                    · exfalso
                      rcases step1_errs HGS.out HAB.out.1 HAB.out.2 hx with h | h | h <;> omega
                    · rcases steps_cons HSQ.out with ⟨e, h1, -⟩ | ⟨next2, sol2, k', h1, h2, hkk⟩
                      · rw [hx] at h1; cases h1
                      · rw [hx] at h1
                        cases h1
                        obtain ⟨hgs, hfe⟩ := step_good HGS.out HFF.out hx
                        have HGS2 := Lib.hid hgs
                        have HFF2 := Lib.hid hfe
                        have HSM2 := Lib.hid (HSM.out.next HGS.out HAB.out.1 HAB.out.2 hx)
                        have HSQ2 : Hid (Steps k' ((next ++ rest) ++ es.drop (j + 1)) sol' r) := Lib.hid (by rw [List.append_assoc]; exact h2)
                        have HEQ2 := Lib.hid heq
                        have HTY2 := Lib.hid hty
                        clear hx heq hty h2 hgs hfe HRS HSQ HSM HFF HGS HAB
                        go_wp2_with fail
                        go_roundg k'
                        case rel => exact ⟨_, _, _, _, _, _, _, _, rfl, rfl, HEQ2, HTY2, HGS2, HFF2, HSM2, HSQ2, hb⟩
                        case measure => exact hkk
                  · have he2 : (err != 0) = true := by simp [he]
                    have HRE : Hid (r = .error err) := Lib.hid (by
                      rcases HRS.out with hx | ⟨h0, -⟩
                      · rcases steps_cons HSQ.out with ⟨e, h1, h2⟩ | ⟨next2, sol2, k', h1, h2, hkk⟩
                        · rw [hx] at h1; cases h1; exact h2
                        · rw [hx] at h1; cases h1
                      · exact absurd h0 he)
                    clear he HRS
                    apply wp_region_lit
                    (with_reducible refine wl_k ?_ ?_); exact rfl; intro K hK; go_simp; refine hK _ ?_; clear hK K
                    (with_reducible refine wl_k ?_ ?_); exact rfl; intro K hK; go_simp; refine hK _ ?_; clear hK K
                    go_upto_region 26 with (fail)
                    apply wp_region_lit
                    (with_reducible refine wl_k ?_ ?_); exact rfl; intro K hK; go_simp; refine hK _ ?_; clear hK K
                    (with_reducible refine wl_k ?_ ?_); exact rfl; intro K hK; go_simp; refine hK _ ?_; clear hK K
                    (with_reducible refine wl_k ?_ ?_); exact rfl; intro K hK; go_simp; refine hK _ ?_; clear hK K
                    go_wp2_with fail
                    go_ret2
                    exact UIPost.err HO9.out HRE.out hb
            · have hltI : ¬ (j : Int) < (l : Int) := by omega
              have HRE : Hid (r = .ok sol) := Lib.hid (by
                have := HS1.out
                rw [List.drop_of_length_le (by rw [HL.out]; omega)] at this
                cases this
                rfl)
              apply wp_region_lit
              (with_reducible refine wl_k ?_ ?_); exact rfl; intro K hK; go_simp; refine hK _ ?_; clear hK K
              (with_reducible refine wl_k ?_ ?_); exact rfl; intro K hK; go_simp; refine hK _ ?_; clear hK K
              (with_reducible refine wl_k ?_ ?_); exact rfl; intro K hK; go_simp; refine hK _ ?_; clear hK K
              (with_reducible refine wl_k ?_ ?_); exact rfl; intro K hK; go_simp; refine hK _ ?_; clear hK K
              clear hltI hlt HS1
              go_upto_region 27 with (fail)
              apply wp_region_lit
              (with_reducible refine wl_k ?_ ?_); exact rfl; intro K hK; go_simp; refine hK _ ?_; clear hK K
              (with_reducible refine wl_k ?_ ?_); exact rfl; intro K hK; go_simp; refine hK _ ?_; clear hK K
              (with_reducible refine wl_k ?_ ?_); exact rfl; intro K hK; go_simp; refine hK _ ?_; clear hK K
              go_wp2_with fail
              go_ret2
              exact UIPost.yes HO9.out HRE.out hb HTY.out
end Go.Proofs.YtokmaehefenpmaaDoor
