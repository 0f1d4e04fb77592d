/- Two items of the same value, by the document's helper. -/
import Derived.Outline
import Derived.Test.YtbhdgeoljlhmcaaQB16
import Derived.Test.YtbhdgeoljlhmcaaQB13
namespace Go.Proofs.Ytbhdgeoljlhmcaa
open Go.RowKit Go.Proofs.Ytbhdgeoljlhmcaa.Nm Go.Proofs.Ytbhdgeoljlhmcaa.St
set_option linter.unusedSimpArgs false
def permB (a b : List Ent) : Bool := @List.isPerm Ent (@instBEqOfDecidableEq Ent inferInstance) a b
theorem permB_iff {a b : List Ent} : permB a b = true ↔ a.Perm b := @List.isPerm_iff Ent (@instBEqOfDecidableEq Ent inferInstance) inferInstance a b
def alikeB (a b : Buf) : Bool := decide (a.kd = b.kd) && (decide (a.l = b.l) && permB (pairsT a.t) (pairsT b.t))
theorem sorted_perm {l m l' m' : List Ent} (h1 : l'.Perm l) (h2 : l'.Pairwise leE) (h3 : m'.Perm m) (h4 : m'.Pairwise leE) (ha : Apt l) : decide (l' = m') = permB l m := by
  rw [Bool.eq_iff_iff, decide_eq_true_eq, permB_iff]
  constructor
  · intro e; subst e; exact h1.symm.trans h3
  · intro h
    refine ent_uniq h2 h4 ?_ (h1.trans (h.trans h3.symm))
    exact (h1.pairwise_iff (fun h9 e => h9 e.symm)).2 ha
set_option maxHeartbeats 2000000 in
set_option maxRecDepth 100000 in
theorem Alike_any (a b : Buf) {w : World} {B B' : Nat} {v v' : Value} (hl : a.l.length ≤ 1000000) (hp : (pairsT a.t).length ≤ 100000) (hp2 : (pairsT b.t).length ≤ 100000) (ha : Apt (pairsT a.t)) (h1 : ItemAt w B v a) (h2 : ItemAt w B' v' b) :
    Calls Try.prog 21 #[v, v'] w fun e w' => e = .returned (.bool (alikeB a b)) ∧ Below w.heap.size w w' := by
  obtain ⟨A1, c1, A2, c2, rfl, o1, o2⟩ := h1.shape
  obtain ⟨A3, c3, A4, c4, rfl, o3, o4⟩ := h2.shape
  obtain ⟨G, hG⟩ : ∃ G, G = alikeB a b := ⟨_, rfl⟩
  rw [← hG]
  have HG := Lib.hid hG
  clear h1 h2 hG
  obtain ⟨kd, l, seed, t⟩ := a
  obtain ⟨kd', l', seed', t'⟩ := b
  simp only at o1 o2 o3 o4 hl hp hp2 ha ⊢
  obtain ⟨x1', y1', e1, s1⟩ := own_str o1 rfl
  obtain ⟨x3', y3', e3, s3⟩ := own_str o3 rfl
  cases e1; cases e3
  have HG : Hid (G = (decide (kd = kd') && (decide (l = l') && permB (pairsT t) (pairsT t')))) := Lib.hid HG.out
  obtain ⟨P, hP⟩ : ∃ P, P = pairsT t := ⟨_, rfl⟩
  obtain ⟨P', hP'⟩ : ∃ P', P' = pairsT t' := ⟨_, rfl⟩
  rw [← hP] at HG o2 hp ha ⊢
  rw [← hP'] at HG o4 hp2 ⊢
  have HS1 := Lib.hid s1
  have HS3 := Lib.hid s3
  have HO2 := Lib.hid o2
  have HO4 := Lib.hid o4
  have HAP := Lib.hid ha
  obtain ⟨nl, hnl⟩ : ∃ nl, nl = l.length := ⟨_, rfl⟩
  obtain ⟨nl', hnl'⟩ : ∃ nl', nl' = l'.length := ⟨_, rfl⟩
  rw [← hnl] at HS1 hl ⊢
  rw [← hnl'] at HS3 ⊢
  clear hP hP' o1 o2 o3 o4 s1 s3 ha hnl hnl'
  go_enter Try.func21, Try.ntmps21
  go_upto_region 1 with (fail)
  have hb0 := (Below.refl w.heap.size w).alloc (Nat.le_refl _) (.cells (icells kd (.slice A1 nl c1) seed (.slice A2 P.length c2)) 32)
  have hb1 := hb0.alloc (by simp) (.cells (icells kd' (.slice A3 nl' c3) seed' (.slice A4 P'.length c4)) 32)
  refine wp_world (fun W => Below w.heap.size w W ∧ W.heap[w.heap.size]? = some (.cells (icells kd (.slice A1 nl c1) seed (.slice A2 P.length c2)) 32 (0, 0)) ∧ W.heap[w.heap.size + 1]? = some (.cells (icells kd' (.slice A3 nl' c3) seed' (.slice A4 P'.length c4)) 32 (0, 0))) ⟨hb1, ha_old (ha_new rfl), ha_new (by simp)⟩ ?_
  clear hb0 hb1
  rintro W ⟨hb, g1, g2⟩
  obtain ⟨x0, x1, -, x3⟩ := ic_cell g1
  obtain ⟨y0, y1, -, y3⟩ := ic_cell g2
  replace HS1 := Lib.hid (HS1.out.below hb)
  replace HS3 := Lib.hid (HS3.out.below hb)
  replace HO2 := Lib.hid (own_below HO2.out hb)
  replace HO4 := Lib.hid (own_below HO4.out hb)
  clear g1 g2
  refine wp_region_held_drew (S := Kept [] W) mixed (Kept.drew [] W) (fun hS => ?_)
  refine hk3 (i := 0) rfl (by kernel_rfl) Zh hS rfl (fun K hK => ?_); go_simp; refine hK _ ?_; clear hK K; try simp only [Zq]
  refine hv3 (i := 1) rfl (by kernel_rfl) Zg hS rfl (fun w' hw' => ex_one rfl (one3 (hw'.cell x0 (by simp <;> omega)))) ?_; try simp only [Zq]
  refine hk3 (i := 2) rfl (by kernel_rfl) Zh hS rfl (fun K hK => ?_); go_simp; refine hK _ ?_; clear hK K; try simp only [Zq]
  refine hv3 (i := 3) rfl (by kernel_rfl) Zg hS rfl (fun w' hw' => ex_one rfl (one3 (hw'.cell y0 (by simp <;> omega)))) ?_; try simp only [Zq]
  refine hk3 (i := 4) rfl (by kernel_rfl) Zh hS rfl (fun K hK => ?_); go_simp; refine hK _ ?_; clear hK K; try simp only [Zq]
  obtain ⟨q, hq⟩ : ∃ q, q = decide (kd = kd') := ⟨_, rfl⟩
  have HQ := Lib.hid hq
  rw [show (kd == kd') = q by rw [hq]; rfl]
  clear hq
  refine hk3 (i := 5) rfl (by kernel_rfl) Zh hS rfl (fun K hK => ?_); go_simp; refine hK _ ?_; clear hK K; try simp only [Zq]
  cases q with
  | false =>
    have HG2 : Hid (G = false) := Lib.hid (by rw [HG.out, ← HQ.out]; rfl)
    refine hs3 (i := 6) rfl (by kernel_rfl) Zg hS rfl ?_; simp only [Zy]
    refine hs3 (i := 7) rfl (by kernel_rfl) Zg hS rfl ?_; simp only [Zy]
    refine hs3 (i := 8) rfl (by kernel_rfl) Zg hS rfl ?_; simp only [Zy]
    refine hs3 (i := 9) rfl (by kernel_rfl) Zg hS rfl ?_; simp only [Zy]
    refine hs3 (i := 10) rfl (by kernel_rfl) Zg hS rfl ?_; simp only [Zy]
    refine hk3 (i := 11) rfl (by kernel_rfl) Zh hS rfl (fun K hK => ?_); go_simp; refine hK _ ?_; clear hK K; try simp only [Zq]
    refine hk3 (i := 12) rfl (by kernel_rfl) Zh hS rfl (fun K hK => ?_); go_simp; refine hK _ ?_; clear hK K; try simp only [Zq]
    refine hs3 (i := 13) rfl (by kernel_rfl) Zg hS rfl ?_; simp only [Zy]
    refine hs3 (i := 14) rfl (by kernel_rfl) Zg hS rfl ?_; simp only [Zy]
    refine hs3 (i := 15) rfl (by kernel_rfl) Zg hS rfl ?_; simp only [Zy]
    refine hs3 (i := 16) rfl (by kernel_rfl) Zg hS rfl ?_; simp only [Zy]
    refine hs3 (i := 17) rfl (by kernel_rfl) Zg hS rfl ?_; simp only [Zy]
    refine hs3 (i := 18) rfl (by kernel_rfl) Zg hS rfl ?_; simp only [Zy]
    refine hs3 (i := 19) rfl (by kernel_rfl) Zg hS rfl ?_; simp only [Zy]
    refine hk3 (i := 20) rfl (by kernel_rfl) Zh hS rfl (fun K hK => ?_); go_simp; refine hK _ ?_; clear hK K; try simp only [Zq]
    refine hk3 (i := 21) rfl (by kernel_rfl) Zh hS rfl (fun K hK => ?_); go_simp; refine hK _ ?_; clear hK K; try simp only [Zq]
    refine wpAnyH_done (by kernel_rfl) ?_ _
    have hb2 := hb.trans (hS.toBelow hb.size (by simp))
    go_wp2_with fail
    go_ret
    exact ⟨by rw [HG2.out]; rfl, hb2⟩
  | true =>
    have HG2 : Hid (G = (decide (l = l') && permB P P')) := Lib.hid (by rw [HG.out, ← HQ.out]; rfl)
    clear HG HQ
    refine hk3 (i := 6) rfl (by kernel_rfl) Zh hS rfl (fun K hK => ?_); go_simp; refine hK _ ?_; clear hK K; try simp only [Zq]
    refine hv3 (i := 7) rfl (by kernel_rfl) Zg hS rfl (fun w' hw' => ex_one rfl (one29 (hw'.cell x1 (by simp <;> omega)))) ?_; try simp only [Zq]
    refine hk3 (i := 8) rfl (by kernel_rfl) Zh hS rfl (fun K hK => ?_); go_simp; refine hK _ ?_; clear hK K; try simp only [Zq]
    refine hv3 (i := 9) rfl (by kernel_rfl) Zg hS rfl (fun w' hw' => ex_one rfl (one29 (hw'.cell y1 (by simp <;> omega)))) ?_; try simp only [Zq]
    have hbd := (Below.refl W.heap.size W).drew
    refine ha_call (i := 10) (by kernel_rfl) rfl rfl (fun K hK => ?_); go_simp; refine ⟨_, _, ⟨rfl, rfl⟩, hK _ _ ⟨_, EqStrings_any A1 A3 nl nl' c1 c3 l l' hl _ (HS1.out.below hbd) (HS3.out.below hbd), ?_⟩⟩; clear hK K; rintro e w3 ⟨rfl, hb1⟩; refine ⟨_, rfl, hS.below hb1, ?_⟩; replace hS := hS.below hb1; try simp only [Zq]
    obtain ⟨q, hq⟩ : ∃ q, q = decide (l = l') := ⟨_, rfl⟩
    rw [← hq] at HG2 ⊢
    clear hq
    refine hk3 (i := 11) rfl (by kernel_rfl) Zh hS rfl (fun K hK => ?_); go_simp; refine hK _ ?_; clear hK K; try simp only [Zq]
    refine hk3 (i := 12) rfl (by kernel_rfl) Zh hS rfl (fun K hK => ?_); go_simp; refine hK _ ?_; clear hK K; try simp only [Zq]
    cases q with
    | false =>
      have HG3 : Hid (G = false) := Lib.hid (by rw [HG2.out]; rfl)
      refine hs3 (i := 13) rfl (by kernel_rfl) Zg hS rfl ?_; simp only [Zy]
      refine hs3 (i := 14) rfl (by kernel_rfl) Zg hS rfl ?_; simp only [Zy]
      refine hs3 (i := 15) rfl (by kernel_rfl) Zg hS rfl ?_; simp only [Zy]
      refine hs3 (i := 16) rfl (by kernel_rfl) Zg hS rfl ?_; simp only [Zy]
      refine hs3 (i := 17) rfl (by kernel_rfl) Zg hS rfl ?_; simp only [Zy]
      refine hs3 (i := 18) rfl (by kernel_rfl) Zg hS rfl ?_; simp only [Zy]
      refine hs3 (i := 19) rfl (by kernel_rfl) Zg hS rfl ?_; simp only [Zy]
      refine hk3 (i := 20) rfl (by kernel_rfl) Zh hS rfl (fun K hK => ?_); go_simp; refine hK _ ?_; clear hK K; try simp only [Zq]
      refine hk3 (i := 21) rfl (by kernel_rfl) Zh hS rfl (fun K hK => ?_); go_simp; refine hK _ ?_; clear hK K; try simp only [Zq]
      refine wpAnyH_done (by kernel_rfl) ?_ _
      have hb2 := hb.trans (hS.toBelow hb.size (by simp))
      go_wp2_with fail
      go_ret
      exact ⟨by rw [HG3.out]; rfl, hb2⟩
    | true =>
      have HG3 : Hid (G = permB P P') := Lib.hid (by rw [HG2.out]; rfl)
      clear HG2 HS1 HS3
      refine hk3 (i := 13) rfl (by kernel_rfl) Zh hS rfl (fun K hK => ?_); go_simp; refine hK _ ?_; clear hK K; try simp only [Zq]
      refine hv3 (i := 14) rfl (by kernel_rfl) Zg hS rfl (fun w' hw' => ex_one rfl (one30 (hw'.cell x3 (by simp <;> omega)))) ?_; try simp only [Zq]
      refine hk3 (i := 16) rfl (by kernel_rfl) Zh hS rfl (fun K hK => ?_); go_simp; refine hK _ ?_; clear hK K; try simp only [Zq]
      refine hv3 (i := 17) rfl (by kernel_rfl) Zg hS rfl (fun w' hw' => ex_one rfl (one30 (hw'.cell y3 (by simp <;> omega)))) ?_; try simp only [Zq]
      refine ha_call (i := 15) (by kernel_rfl) rfl rfl (fun K hK => ?_); go_simp; refine ⟨_, _, ⟨rfl, rfl⟩, hK _ _ ⟨_, Pairs_any (.slice A2 P.length c2) P 0 hp _ (own_weak (own_below HO2.out (hS.toBelow (Nat.le_refl _) (by simp))) (Nat.zero_le _)), ?_⟩⟩; clear hK K; rintro e w4 ⟨v1, P1, rfl, hpm1, hsr1, ho1, hb1⟩; refine ⟨_, rfl, hS.below hb1, ?_⟩; replace hS := hS.below hb1; try simp only [Zq]
      have HP1 := Lib.hid hpm1
      have HR1 := Lib.hid hsr1
      have HO1 := Lib.hid ho1
      clear hpm1 hsr1 ho1
      refine ha_call (i := 18) (by kernel_rfl) rfl rfl (fun K hK => ?_); go_simp; refine ⟨_, _, ⟨rfl, rfl⟩, hK _ _ ⟨_, Pairs_any (.slice A4 P'.length c4) P' 0 hp2 _ (own_weak (own_below HO4.out (hS.toBelow (Nat.le_refl _) (by simp))) (Nat.zero_le _)), ?_⟩⟩; clear hK K; rintro e w5 ⟨v2, P2, rfl, hpm2, hsr2, ho2, hb1⟩; refine ⟨_, rfl, hS.below hb1, ?_⟩; replace hS := hS.below hb1; replace HO1 := Lib.hid (own_below HO1.out hb1); try simp only [Zq]
      obtain ⟨Y1, d1, rfl, hpr1⟩ := own_prAt HO1.out HP1.out.length_eq
      obtain ⟨Y2, d2, rfl, hpr2⟩ := own_prAt ho2 hpm2.length_eq
      have HPR1 := Lib.hid hpr1
      have HPR2 := Lib.hid hpr2
      have HG4 : Hid (G = decide (P1 = P2)) := Lib.hid (by rw [HG3.out, sorted_perm HP1.out HR1.out hpm2 hsr2 HAP.out])
      clear hpm2 hsr2 ho2 hpr1 hpr2 HG3
      refine ha_call (i := 19) (by kernel_rfl) rfl rfl (fun K hK => ?_); go_simp; refine ⟨_, _, ⟨rfl, rfl⟩, hK _ _ ⟨_, EqPairs_any Y1 Y2 P.length P'.length d1 d2 P1 P2 (by omega) _ HPR1.out HPR2.out, ?_⟩⟩; clear hK K; rintro e w6 ⟨rfl, hb1⟩; refine ⟨_, rfl, hS.below hb1, ?_⟩; replace hS := hS.below hb1; try simp only [Zq]
      rw [← HG4.out]
      refine hk3 (i := 20) rfl (by kernel_rfl) Zh hS rfl (fun K hK => ?_); go_simp; refine hK _ ?_; clear hK K; try simp only [Zq]
      refine hk3 (i := 21) rfl (by kernel_rfl) Zh hS rfl (fun K hK => ?_); go_simp; refine hK _ ?_; clear hK K; try simp only [Zq]
      refine wpAnyH_done (by kernel_rfl) ?_ _
      have hb2 := hb.trans (hS.toBelow hb.size (by simp))
      go_wp2_with fail
      go_ret
      exact ⟨rfl, hb2⟩
end Go.Proofs.Ytbhdgeoljlhmcaa
