/- Whether two names are the same, by the program. -/
import Derived.Outline
import Derived.Test.YtbhdgeoljlhmcaaQB12
import Derived.Test.YtbhdgeoljlhmcaaQB14
namespace Go.Proofs.Ytbhdgeoljlhmcaa
open Go.RowKit Go.Proofs.Ytbhdgeoljlhmcaa.Nm Go.Proofs.Ytbhdgeoljlhmcaa.St
set_option linter.unusedSimpArgs false
theorem valR_inv {v : Value} {d : DataW Unit} {ps : List MemPlace} (h : valR v = some (d, ps)) : ∃ a, v = .int .i64 a ∧ d = .lit (.int .i64 a) := by
  unfold valR at h
  split at h
  · cases h; exact ⟨_, rfl, rfl⟩
  · cases h
set_option maxRecDepth 100000 in
theorem mEqual_any (b1 b2 n1 n2 : Nat) (D1 D2 : DataW Unit) (w : World) (h1 : w.ownsMap Try.prog 9 valR b1 n1 D1) (h2 : w.ownsMap Try.prog 9 valR b2 n2 D2) :
    Calls Try.prog 73 #[.map (some b1), .map (some b2)] w fun e w' => e = .returned (.bool (Lib.equalFuncD eqdI D1 D2)) ∧ Below w.heap.size w w' := by
  have h := AnyEq.maps_Equal Try.laysMe K9 valR valR eqdI b1 b2 n1 n2 D1 D2 w h1 h2 (.int .i64 0) Try.zeroValue3 _ [] (valR_int 0) (fun W x y xd yd xp yp hx hy => by
    obtain ⟨a, rfl, rfl⟩ := valR_inv hx
    obtain ⟨b, rfl, rfl⟩ := valR_inv hy
    refine ⟨?_, ?_⟩
    · simp [go_sem, eqdI, binOp]
      rfl
    · intro p q; rw [eqGuard_at_int]; rfl)
  exact h.mono fun e w' ⟨h3, h4⟩ => ⟨h3, (Below.refl w.heap.size w).grown h4 (Nat.le_refl _) (fun k hk => by cases hk)⟩
/-- whether two buffers are the same value -/
def sameB (x y : Buf) : Bool := decide (x.kd = y.kd) && (decide (x.l = y.l) && Lib.equalFuncD eqdI (mapD (pairsT x.t)) (mapD (pairsT y.t)))
theorem id_none_iff {A : Sto} (hA : Good A) {n : Int} : (A.buf n).kd = 0 ↔ A.id n = none := by
  constructor
  · intro h
    cases hq : A.id n with
    | none => rfl
    | some k =>
      have hl := id_lt hA hq
      have hb : A.bufs[k]? = some (A.buf n) := by rw [buf_some hq, List.getD_eq_getElem?_getD, List.getElem?_eq_getElem hl]; rfl
      rcases hA.bufs k _ hb with ⟨h1, _⟩ | ⟨h1, _⟩ <;> rw [h] at h1 <;> exact absurd h1 (by decide)
  · intro h; rw [buf_none h]; rfl
theorem GoodB.apt {b : Buf} (h : GoodB b) : Apt (pairsT b.t) := by
  rcases h with ⟨_, _, h, _⟩ | ⟨_, _, _, _, h, _⟩
  · rw [h]; exact List.Pairwise.nil
  · exact apt_pairs h
theorem GoodB.short {b : Buf} (h : GoodB b) : Short b.t := by
  rcases h with ⟨_, _, h, _⟩ | ⟨_, _, _, _, _, h, _⟩
  · rw [h]; exact fun j => by simp [pl, ek]; decide
  · exact h
set_option maxHeartbeats 4000000 in
set_option maxRecDepth 100000 in
theorem Same_yes (s : Nat) (A : Sto) (rs : List Row) (hA : Good A) (f t : Nat) (hf : (f : Int) < 8) (ht : (t : Int) < 8) (w : World) (h : StoreAt w s A rs) :
    Calls Try.prog 44 #[.pointer (some ⟨s, 0, none⟩), .int .i64 (f : Int), .int .i64 (t : Int)] w fun e w' => e = .returned (.tuple #[.bool (sameB (A.buf (f : Int)) (A.buf (t : Int))), .int .i64 0]) ∧ Below w.heap.size w w' := by
  have HS := Lib.hid h
  have HA := Lib.hid hA
  clear h hA
  obtain ⟨G, hGG⟩ : ∃ G, G = sameB (A.buf (f : Int)) (A.buf (t : Int)) := ⟨_, rfl⟩
  have HG := Lib.hid hGG
  rw [← hGG]
  clear hGG
  go_enter Try.func44, Try.ntmps44
  go_upto_region 1 with (fail)
  apply wp_region_lit
  iterate 2 (refine wl_k rfl (fun K hK => ?_); go_simp; refine hK _ ?_; clear hK K)
  refine wl_ck rfl (fun K hK => ?_); go_simp; refine ⟨_, _, ⟨rfl, rfl⟩, hK _ _ ⟨_, of_yes s A rs HA.out f hf _ HS.out, ?_⟩⟩; clear hK K; rintro e w1 ⟨rfl, hb1⟩; refine ⟨_, rfl, ?_⟩; simp only [Zq]
  replace HS := Lib.hid (HS.out.below hb1)
  iterate 5 (refine wl_k rfl (fun K hK => ?_); go_simp; refine hK _ ?_; clear hK K)
  go_upto_region 2 with (fail)
  apply wp_region_lit
  iterate 2 (refine wl_k rfl (fun K hK => ?_); go_simp; refine hK _ ?_; clear hK K)
  refine wl_ck rfl (fun K hK => ?_); go_simp; refine ⟨_, _, ⟨rfl, rfl⟩, hK _ _ ⟨_, of_yes s A rs HA.out t ht _ HS.out, ?_⟩⟩; clear hK K; rintro e w2 ⟨rfl, hb2⟩; refine ⟨_, rfl, ?_⟩; simp only [Zq]
  replace HS := Lib.hid (HS.out.below hb2)
  replace hb1 := hb1.trans (hb2.mono hb1.size)
  clear hb2
  cases hi1 : A.id (f : Int) with
  | none =>
    have h1 := (id_none_iff HA.out).2 hi1
    cases hi2 : A.id (t : Int) with
    | none =>
      have HG2 : Hid (G = true) := Lib.hid (by
        rw [HG.out]; unfold sameB; rw [buf_none hi1, buf_none hi2]
        simp [noBuf, pairsT, mapD_self (List.Pairwise.nil : Apt [])])
      simp only [Option.map_none]
      rw [show bp none = .pointer none from rfl]
      clear hi1 hi2 h1
      go_wp2_with fail
      go_ret2
      exact ⟨by rw [HG2.out]; rfl, hb1⟩
    | some q2 =>
      obtain ⟨r2, hr2, hbk2, hB2, hG2, hns2⟩ := HS.out.row HA.out hi2
      have HG2 : Hid (G = false) := Lib.hid (by
        rw [HG.out]; unfold sameB
        rw [decide_eq_false (fun e => ?_)]; rfl
        rw [h1] at e
        have := (id_none_iff HA.out).1 e.symm
        rw [hi2] at this; cases this)
      simp only [Option.map_none, Option.map_some, gAt_eq hr2]
      rw [show bp none = .pointer none from rfl, show bp (some r2.g) = .pointer (some ⟨r2.g, 0, none⟩) from rfl]
      clear hi1 hi2 h1 hr2 hbk2 hB2 hG2 hns2
      have HE : ∀ w, (binOp .eql 80 (.pointer none) (.pointer (some ⟨r2.g, 0, none⟩))).run Try.prog w = .ok (.bool false) w := fun w => by kernel_rfl
      go_wp2_with fail
      go_ret2
      exact ⟨by rw [HG2.out]; rfl, hb1⟩
  | some q1 =>
    obtain ⟨r1, hr1, hbk1, hB1, hG1, hns1⟩ := HS.out.row HA.out hi1
    cases hi2 : A.id (t : Int) with
    | none =>
      have h2 := (id_none_iff HA.out).2 hi2
      have HG2 : Hid (G = false) := Lib.hid (by
        rw [HG.out]; unfold sameB
        rw [decide_eq_false (fun e => ?_)]; rfl
        rw [h2] at e
        have := (id_none_iff HA.out).1 e
        rw [hi1] at this; cases this)
      simp only [Option.map_none, Option.map_some, gAt_eq hr1]
      rw [show bp none = .pointer none from rfl, show bp (some r1.g) = .pointer (some ⟨r1.g, 0, none⟩) from rfl]
      clear hi1 hi2 h2 hr1 hbk1 hB1 hG1 hns1
      go_wp2_with fail
      go_ret2
      exact ⟨by rw [HG2.out]; rfl, hb1⟩
    | some q2 =>
      obtain ⟨r2, hr2, hbk2, hB2, hG2, hns2⟩ := HS.out.row HA.out hi2
      simp only [Option.map_some, gAt_eq hr1, gAt_eq hr2]
      rw [show bp (some r1.g) = .pointer (some ⟨r1.g, 0, none⟩) from rfl, show bp (some r2.g) = .pointer (some ⟨r2.g, 0, none⟩) from rfl]
      obtain ⟨X, hX⟩ : ∃ X, X = A.buf (f : Int) := ⟨_, rfl⟩
      obtain ⟨Y, hY⟩ : ∃ Y, Y = A.buf (t : Int) := ⟨_, rfl⟩
      rw [← hX] at HG hB1 hG1
      rw [← hY] at HG hB2 hG2
      have hz1 := hG1.len
      have hz2 := hG2.len
      have HSH1 := Lib.hid hG1.short
      have HSH2 := Lib.hid hG2.short
      obtain ⟨hm1, hl1, ht1, hnil1⟩ := hB1
      obtain ⟨hm2, hl2, ht2, hnil2⟩ := hB2
      obtain ⟨A1, cp1, e1, hs1⟩ := own_str hl1 rfl
      obtain ⟨A2, cp2, e2, hs2⟩ := own_str hl2 rfl
      obtain ⟨P1, cq1, e3, hv1⟩ := own_vt ht1 hnil1
      obtain ⟨P2, cq2, e4, hv2⟩ := own_vt ht2 hnil2
      rw [e1, e3] at hm1
      rw [e2, e4] at hm2
      obtain ⟨a0, a1, -, -, -⟩ := bc_cell hm1
      obtain ⟨b0, b1, -, -, -⟩ := bc_cell hm2
      have HM1 := Lib.hid hm1
      have HM2 := Lib.hid hm2
      have HS1 := Lib.hid hs1
      have HS2 := Lib.hid hs2
      have HV1 := Lib.hid hv1
      have HV2 := Lib.hid hv2
      obtain ⟨g1, hg1⟩ : ∃ g1, g1 = r1.g := ⟨_, rfl⟩
      obtain ⟨g2, hg2⟩ : ∃ g2, g2 = r2.g := ⟨_, rfl⟩
      rw [← hg1] at HM1 a0 a1 ⊢
      rw [← hg2] at HM2 b0 b1 ⊢
      clear hi1 hi2 hr1 hr2 hbk1 hbk2 hG1 hG2 hns1 hns2 hX hY hm1 hm2 hl1 hl2 ht1 ht2 hnil1 hnil2 e1 e2 e3 e4 hs1 hs2 hv1 hv2 hg1 hg2
      obtain ⟨kd1, l1, sd1, t1⟩ := X
      obtain ⟨kd2, l2, sd2, t2⟩ := Y
      simp only at hz1 hz2 HSH1 HSH2 HM1 HM2 HS1 HS2 HV1 HV2 a0 a1 b0 b1 HG
      have HGX : Hid (G = (decide (kd1 = kd2) && (decide (l1 = l2) && Lib.equalFuncD eqdI (mapD (pairsT t1)) (mapD (pairsT t2))))) := Lib.hid HG.out
      clear HG
      have hbw := hb1
      clear hb1
      go_upto_region 7 with (fail)
      refine wp_region_held_drew (S := Kept [] w2) mixed (Kept.drew [] w2) (fun hS => ?_)
      refine hk3 (i := 0) rfl (by kernel_rfl) Zh hS rfl (fun K hK => ?_); go_simp; refine hK _ ?_; clear hK K; try simp only [Zq]
      refine hk3 (i := 1) rfl (by kernel_rfl) Zh hS rfl (fun K hK => ?_); go_simp; refine hK _ ?_; clear hK K; try simp only [Zq]
      refine hk3 (i := 2) rfl (by kernel_rfl) Zh hS rfl (fun K hK => ?_); go_simp; refine hK _ ?_; clear hK K; try simp only [Zq]
      (refine hv3 (i := 3) rfl (by kernel_rfl) Zg hS (by kernel_rfl) (fun w' hw' => ex_one rfl (one3 (hw'.cell a0 (by simp)))) ?_; try simp only [Zq])
      refine hk3 (i := 4) rfl (by kernel_rfl) Zh hS rfl (fun K hK => ?_); go_simp; refine hK _ ?_; clear hK K; try simp only [Zq]
      refine hk3 (i := 5) rfl (by kernel_rfl) Zh hS rfl (fun K hK => ?_); go_simp; refine hK _ ?_; clear hK K; try simp only [Zq]
      refine hk3 (i := 6) rfl (by kernel_rfl) Zh hS rfl (fun K hK => ?_); go_simp; refine hK _ ?_; clear hK K; try simp only [Zq]
      (refine hv3 (i := 7) rfl (by kernel_rfl) Zg hS (by kernel_rfl) (fun w' hw' => ex_one rfl (one3 (hw'.cell b0 (by simp)))) ?_; try simp only [Zq])
      refine hk3 (i := 8) rfl (by kernel_rfl) Zh hS rfl (fun K hK => ?_); go_simp; refine hK _ ?_; clear hK K; try simp only [Zq]
      refine hk3 (i := 9) rfl (by kernel_rfl) Zh hS rfl (fun K hK => ?_); go_simp; refine hK _ ?_; clear hK K; try simp only [Zq]
      obtain ⟨q, hq⟩ : ∃ q, q = decide (kd1 = kd2) := ⟨_, rfl⟩
      have HQ := Lib.hid hq
      rw [show (kd1 == kd2) = q by rw [hq]; rfl]
      clear hq
      cases q with
      | false =>
        have HG2 : Hid (G = false) := Lib.hid (by rw [HGX.out, ← HQ.out]; rfl)
        refine hs3 (i := 10) rfl (by kernel_rfl) Zg hS rfl ?_; simp only [Zy]
        refine hs3 (i := 11) rfl (by kernel_rfl) Zg hS rfl ?_; simp only [Zy]
        refine hs3 (i := 12) rfl (by kernel_rfl) Zg hS rfl ?_; simp only [Zy]
        refine hs3 (i := 13) rfl (by kernel_rfl) Zg hS rfl ?_; simp only [Zy]
        refine hs3 (i := 14) rfl (by kernel_rfl) Zg hS rfl ?_; simp only [Zy]
        refine hs3 (i := 15) rfl (by kernel_rfl) Zg hS rfl ?_; simp only [Zy]
        refine hs3 (i := 16) rfl (by kernel_rfl) Zg hS rfl ?_; simp only [Zy]
        refine hs3 (i := 17) rfl (by kernel_rfl) Zg hS rfl ?_; simp only [Zy]
        refine hs3 (i := 18) rfl (by kernel_rfl) Zg hS rfl ?_; simp only [Zy]
        refine hk3 (i := 19) rfl (by kernel_rfl) Zh hS rfl (fun K hK => ?_); go_simp; refine hK _ ?_; clear hK K; try simp only [Zq]
        refine hk3 (i := 20) rfl (by kernel_rfl) Zh hS rfl (fun K hK => ?_); go_simp; refine hK _ ?_; clear hK K; try simp only [Zq]
        refine hs3 (i := 21) rfl (by kernel_rfl) Zg hS rfl ?_; simp only [Zy]
        refine hs3 (i := 22) rfl (by kernel_rfl) Zg hS rfl ?_; simp only [Zy]
        refine hs3 (i := 23) rfl (by kernel_rfl) Zg hS rfl ?_; simp only [Zy]
        refine hs3 (i := 24) rfl (by kernel_rfl) Zg hS rfl ?_; simp only [Zy]
        refine hs3 (i := 25) rfl (by kernel_rfl) Zg hS rfl ?_; simp only [Zy]
        refine hk3 (i := 26) rfl (by kernel_rfl) Zh hS rfl (fun K hK => ?_); go_simp; refine hK _ ?_; clear hK K; try simp only [Zq]
        refine hk3 (i := 27) rfl (by kernel_rfl) Zh hS rfl (fun K hK => ?_); go_simp; refine hK _ ?_; clear hK K; try simp only [Zq]
        refine hk3 (i := 28) rfl (by kernel_rfl) Zh hS rfl (fun K hK => ?_); go_simp; refine hK _ ?_; clear hK K; try simp only [Zq]
        refine wpAnyH_done (by kernel_rfl) ?_ _
        go_wp2_with fail
        go_ret2
        exact ⟨by rw [HG2.out]; rfl, hbw.drew⟩
      | true =>
        have HG2 : Hid (G = (decide (l1 = l2) && Lib.equalFuncD eqdI (mapD (pairsT t1)) (mapD (pairsT t2)))) := Lib.hid (by rw [HGX.out, ← HQ.out]; rfl)
        clear HGX HQ
        replace HS1 := Lib.hid (HS1.out.below (Below.refl _ w2).drew)
        replace HS2 := Lib.hid (HS2.out.below (Below.refl _ w2).drew)
        replace HV1 := Lib.hid (HV1.out.below (Below.refl _ w2).drew)
        replace HV2 := Lib.hid (HV2.out.below (Below.refl _ w2).drew)
        replace HM1 : Hid (w2.drew.heap[g1]? = _) := HM1
        replace HM2 : Hid (w2.drew.heap[g2]? = _) := HM2
        refine hk3 (i := 10) rfl (by kernel_rfl) Zh hS rfl (fun K hK => ?_); go_simp; refine hK _ ?_; clear hK K; try simp only [Zq]
        refine hk3 (i := 11) rfl (by kernel_rfl) Zh hS rfl (fun K hK => ?_); go_simp; refine hK _ ?_; clear hK K; try simp only [Zq]
        refine hk3 (i := 12) rfl (by kernel_rfl) Zh hS rfl (fun K hK => ?_); go_simp; refine hK _ ?_; clear hK K; try simp only [Zq]
        (refine hv3 (i := 13) rfl (by kernel_rfl) Zg hS (by kernel_rfl) (fun w' hw' => ex_one rfl (one29 (hw'.cell a1 (by simp)))) ?_; try simp only [Zq])
        refine hk3 (i := 14) rfl (by kernel_rfl) Zh hS rfl (fun K hK => ?_); go_simp; refine hK _ ?_; clear hK K; try simp only [Zq]
        refine hk3 (i := 15) rfl (by kernel_rfl) Zh hS rfl (fun K hK => ?_); go_simp; refine hK _ ?_; clear hK K; try simp only [Zq]
        refine hk3 (i := 16) rfl (by kernel_rfl) Zh hS rfl (fun K hK => ?_); go_simp; refine hK _ ?_; clear hK K; try simp only [Zq]
        (refine hv3 (i := 17) rfl (by kernel_rfl) Zg hS (by kernel_rfl) (fun w' hw' => ex_one rfl (one29 (hw'.cell b1 (by simp)))) ?_; try simp only [Zq])
        refine ha_call (i := 18) (by kernel_rfl) rfl rfl (fun K hK => ?_); go_simp; refine ⟨_, _, ⟨rfl, rfl⟩, hK _ _ ⟨_, Equal_any A1 A2 _ _ cp1 cp2 l1 l2 (by omega) _ HS1.out HS2.out, ?_⟩⟩; clear hK K; rintro e w3 ⟨rfl, hb1⟩; refine ⟨_, rfl, hS.below hb1, ?_⟩; replace hS := hS.below hb1; replace HM1 := Lib.hid (below_look hb1 HM1.out); replace HM2 := Lib.hid (below_look hb1 HM2.out); replace HV1 := Lib.hid (HV1.out.below hb1); replace HV2 := Lib.hid (HV2.out.below hb1); try simp only [Zq]
        obtain ⟨q, hq⟩ : ∃ q, q = decide (l1 = l2) := ⟨_, rfl⟩
        rw [← hq] at HG2 ⊢
        clear hq HS1 HS2
        cases q with
        | false =>
          have HG3 : Hid (G = false) := Lib.hid (by rw [HG2.out]; rfl)
          refine hk3 (i := 19) rfl (by kernel_rfl) Zh hS rfl (fun K hK => ?_); go_simp; refine hK _ ?_; clear hK K; try simp only [Zq]
          refine hk3 (i := 20) rfl (by kernel_rfl) Zh hS rfl (fun K hK => ?_); go_simp; refine hK _ ?_; clear hK K; try simp only [Zq]
          refine hs3 (i := 21) rfl (by kernel_rfl) Zg hS rfl ?_; simp only [Zy]
          refine hs3 (i := 22) rfl (by kernel_rfl) Zg hS rfl ?_; simp only [Zy]
          refine hs3 (i := 23) rfl (by kernel_rfl) Zg hS rfl ?_; simp only [Zy]
          refine hs3 (i := 24) rfl (by kernel_rfl) Zg hS rfl ?_; simp only [Zy]
          refine hs3 (i := 25) rfl (by kernel_rfl) Zg hS rfl ?_; simp only [Zy]
          refine hk3 (i := 26) rfl (by kernel_rfl) Zh hS rfl (fun K hK => ?_); go_simp; refine hK _ ?_; clear hK K; try simp only [Zq]
          refine hk3 (i := 27) rfl (by kernel_rfl) Zh hS rfl (fun K hK => ?_); go_simp; refine hK _ ?_; clear hK K; try simp only [Zq]
          refine hk3 (i := 28) rfl (by kernel_rfl) Zh hS rfl (fun K hK => ?_); go_simp; refine hK _ ?_; clear hK K; try simp only [Zq]
          refine wpAnyH_done (by kernel_rfl) ?_ _
          replace hbw := hbw.trans (hS.toBelow hbw.size (by simp))
          go_wp2_with fail
          go_ret2
          exact ⟨by rw [HG3.out]; rfl, hbw⟩
        | true =>
          have HG3 : Hid (G = Lib.equalFuncD eqdI (mapD (pairsT t1)) (mapD (pairsT t2))) := Lib.hid (by rw [HG2.out]; rfl)
          clear HG2
          refine hk3 (i := 19) rfl (by kernel_rfl) Zh hS rfl (fun K hK => ?_); go_simp; refine hK _ ?_; clear hK K; try simp only [Zq]
          refine hk3 (i := 20) rfl (by kernel_rfl) Zh hS rfl (fun K hK => ?_); go_simp; refine hK _ ?_; clear hK K; try simp only [Zq]
          refine hk3 (i := 21) rfl (by kernel_rfl) Zh hS rfl (fun K hK => ?_); go_simp; refine hK _ ?_; clear hK K; try simp only [Zq]
          refine hk3 (i := 23) rfl (by kernel_rfl) Zh hS rfl (fun K hK => ?_); go_simp; refine hK _ ?_; clear hK K; try simp only [Zq]
          refine ha_call (i := 22) (by kernel_rfl) rfl rfl (fun K hK => ?_); go_simp; refine ⟨_, _, ⟨rfl, rfl⟩, hK _ _ ⟨_, values_any g1 P1 cq1 t1 _ _ _ _ (by omega) HSH1.out _ HM1.out HV1.out, ?_⟩⟩; clear hK K; rintro e w4 ⟨m1, k1, rfl, ho1, hb1⟩; refine ⟨_, rfl, hS.below hb1, ?_⟩; replace hS := hS.below hb1; replace HM2 := Lib.hid (below_look hb1 HM2.out); replace HV2 := Lib.hid (HV2.out.below hb1); have HO1 := Lib.hid ho1; clear ho1; try simp only [Zq]
          refine ha_call (i := 24) (by kernel_rfl) rfl rfl (fun K hK => ?_); go_simp; refine ⟨_, _, ⟨rfl, rfl⟩, hK _ _ ⟨_, values_any g2 P2 cq2 t2 _ _ _ _ (by omega) HSH2.out _ HM2.out HV2.out, ?_⟩⟩; clear hK K; rintro e w5 ⟨m2, k2, rfl, ho2, hb1⟩; refine ⟨_, rfl, hS.below hb1, ?_⟩; replace hS := hS.below hb1; replace HO1 := Lib.hid (ownsMap_below HO1.out hb1); have HO2 := Lib.hid ho2; clear ho2; try simp only [Zq]
          refine ha_call (i := 25) (by kernel_rfl) rfl rfl (fun K hK => ?_); go_simp; refine ⟨_, _, ⟨rfl, rfl⟩, hK _ _ ⟨_, mEqual_any m1 m2 k1 k2 _ _ _ HO1.out HO2.out, ?_⟩⟩; clear hK K; rintro e w6 ⟨rfl, hb1⟩; refine ⟨_, rfl, hS.below hb1, ?_⟩; replace hS := hS.below hb1; try simp only [Zq]
          refine hk3 (i := 26) rfl (by kernel_rfl) Zh hS rfl (fun K hK => ?_); go_simp; refine hK _ ?_; clear hK K; try simp only [Zq]
          refine hk3 (i := 27) rfl (by kernel_rfl) Zh hS rfl (fun K hK => ?_); go_simp; refine hK _ ?_; clear hK K; try simp only [Zq]
          refine hk3 (i := 28) rfl (by kernel_rfl) Zh hS rfl (fun K hK => ?_); go_simp; refine hK _ ?_; clear hK K; try simp only [Zq]
          refine wpAnyH_done (by kernel_rfl) ?_ _
          replace hbw := hbw.trans (hS.toBelow hbw.size (by simp))
          go_wp2_with fail
          go_ret2
          exact ⟨by rw [HG3.out]; rfl, hbw⟩
set_option maxHeartbeats 2000000 in
set_option maxRecDepth 100000 in
theorem Same_no1 (s : Nat) (A : Sto) (rs : List Row) (hA : Good A) (a b : Int) (ha : isNm a = false) (w : World) (h : StoreAt w s A rs) :
    Calls Try.prog 44 #[.pointer (some ⟨s, 0, none⟩), .int .i64 a, .int .i64 b] w fun e w' => e = .returned (.tuple #[.bool false, .int .i64 4]) ∧ Below w.heap.size w w' := by
  have HN := Lib.hid ha
  have HS := Lib.hid h
  have HA := Lib.hid hA
  clear ha h hA
  go_enter Try.func44, Try.ntmps44
  go_upto_region 1 with (fail)
  apply wp_region_lit
  iterate 2 (refine wl_k rfl (fun K hK => ?_); go_simp; refine hK _ ?_; clear hK K)
  refine wl_ck rfl (fun K hK => ?_); go_simp; refine ⟨_, _, ⟨rfl, rfl⟩, hK _ _ ⟨_, of_no s a HN.out _, ?_⟩⟩; clear hK K; rintro e w1 ⟨rfl, hb1⟩; refine ⟨_, rfl, ?_⟩; simp only [Zq]
  replace HS := Lib.hid (HS.out.below hb1)
  iterate 5 (refine wl_k rfl (fun K hK => ?_); go_simp; refine hK _ ?_; clear hK K)
  by_cases hb : isNm b = true
  · have hb' := hb
    unfold isNm at hb'
    simp at hb'
    obtain ⟨f, rfl⟩ : ∃ f : Nat, b = (f : Int) := ⟨b.toNat, by omega⟩
    have hf8 : (f : Int) < 8 := by omega
    go_upto_region 2 with (fail)
    apply wp_region_lit
    iterate 2 (refine wl_k rfl (fun K hK => ?_); go_simp; refine hK _ ?_; clear hK K)
    refine wl_ck rfl (fun K hK => ?_); go_simp; refine ⟨_, _, ⟨rfl, rfl⟩, hK _ _ ⟨_, of_yes s A rs HA.out f hf8 _ HS.out, ?_⟩⟩; clear hK K; rintro e w2 ⟨rfl, hb2⟩; refine ⟨_, rfl, ?_⟩; simp only [Zq]
    replace hb1 := hb1.trans (hb2.mono hb1.size)
    go_wp2_with fail
    go_ret2
    exact ⟨rfl, hb1⟩
  · have HN2 := Lib.hid (Bool.eq_false_iff.2 hb)
    go_upto_region 2 with (fail)
    apply wp_region_lit
    iterate 2 (refine wl_k rfl (fun K hK => ?_); go_simp; refine hK _ ?_; clear hK K)
    refine wl_ck rfl (fun K hK => ?_); go_simp; refine ⟨_, _, ⟨rfl, rfl⟩, hK _ _ ⟨_, of_no s b HN2.out _, ?_⟩⟩; clear hK K; rintro e w2 ⟨rfl, hb2⟩; refine ⟨_, rfl, ?_⟩; simp only [Zq]
    replace hb1 := hb1.trans (hb2.mono hb1.size)
    go_wp2_with fail
    go_ret2
    exact ⟨rfl, hb1⟩
set_option maxHeartbeats 2000000 in
set_option maxRecDepth 100000 in
theorem Same_no2 (s : Nat) (A : Sto) (rs : List Row) (hA : Good A) (f : Nat) (hf : (f : Int) < 8) (b : Int) (hb : isNm b = false) (w : World) (h : StoreAt w s A rs) :
    Calls Try.prog 44 #[.pointer (some ⟨s, 0, none⟩), .int .i64 (f : Int), .int .i64 b] w fun e w' => e = .returned (.tuple #[.bool false, .int .i64 4]) ∧ Below w.heap.size w w' := by
  have HN := Lib.hid hb
  have HS := Lib.hid h
  have HA := Lib.hid hA
  clear hb h hA
  go_enter Try.func44, Try.ntmps44
  go_upto_region 1 with (fail)
  apply wp_region_lit
  iterate 2 (refine wl_k rfl (fun K hK => ?_); go_simp; refine hK _ ?_; clear hK K)
  refine wl_ck rfl (fun K hK => ?_); go_simp; refine ⟨_, _, ⟨rfl, rfl⟩, hK _ _ ⟨_, of_yes s A rs HA.out f hf _ HS.out, ?_⟩⟩; clear hK K; rintro e w1 ⟨rfl, hb1⟩; refine ⟨_, rfl, ?_⟩; simp only [Zq]
  iterate 5 (refine wl_k rfl (fun K hK => ?_); go_simp; refine hK _ ?_; clear hK K)
  go_upto_region 2 with (fail)
  apply wp_region_lit
  iterate 2 (refine wl_k rfl (fun K hK => ?_); go_simp; refine hK _ ?_; clear hK K)
  refine wl_ck rfl (fun K hK => ?_); go_simp; refine ⟨_, _, ⟨rfl, rfl⟩, hK _ _ ⟨_, of_no s b HN.out _, ?_⟩⟩; clear hK K; rintro e w2 ⟨rfl, hb2⟩; refine ⟨_, rfl, ?_⟩; simp only [Zq]
  replace hb1 := hb1.trans (hb2.mono hb1.size)
  go_wp2_with fail
  go_ret2
  exact ⟨rfl, hb1⟩
end Go.Proofs.Ytbhdgeoljlhmcaa
