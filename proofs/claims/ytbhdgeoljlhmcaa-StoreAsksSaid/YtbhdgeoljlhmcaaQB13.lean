/- All items of a store, by the law; a key's value, by the program. -/
import Derived.Outline
import Derived.Test.YtbhdgeoljlhmcaaQB11
namespace Go.Proofs.Ytbhdgeoljlhmcaa
open Go.RowKit Go.Proofs.Ytbhdgeoljlhmcaa.Nm Go.Proofs.Ytbhdgeoljlhmcaa.St
set_option linter.unusedSimpArgs false
/-- the buffers of the first names -/
def bufsTo (A : Sto) (k : Nat) : List Buf := (List.range k).map fun (i : Nat) => A.buf (i : Int)
theorem bufsTo_snoc (A : Sto) (k : Nat) : bufsTo A (k + 1) = bufsTo A k ++ [A.buf (k : Int)] := by unfold bufsTo; rw [List.range_succ]; simp
theorem bufsTo_length (A : Sto) (k : Nat) : (bufsTo A k).length = k := by simp [bufsTo]
theorem bufsTo_get (A : Sto) {k i : Nat} (h : i < k) : (bufsTo A k)[i]? = some (A.buf (i : Int)) := by simp [bufsTo, h]
set_option maxHeartbeats 2000000 in
set_option maxRecDepth 100000 in
theorem items_any (s : Nat) (A : Sto) (rs : List Row) (hA : Good A) (w : World) (h : StoreAt w s A rs) :
    Calls Try.prog 20 #[.pointer (some ⟨s, 0, none⟩)] w fun e w' => ∃ iv, e = .returned (.tuple #[iv, .bool true]) ∧ ItemsAt w' w.heap.size iv (bufsTo A 8) ∧ Below w.heap.size w w' := by
  have HS := Lib.hid h
  have HA := Lib.hid hA
  clear h hA
  go_enter Try.func20, Try.ntmps20
  go_wp2_with fail
  obtain ⟨W0, hW0⟩ : ∃ W0, W0 = w := ⟨_, rfl⟩
  subst hW0
  have hpre2 := itemsAt_nil W0 W0.heap.size
  go_loopw [4, 5] (fun iv i wr2 => ∃ k : Nat, k ≤ 8 ∧ i = .int .i64 (k : Int) ∧ Hid (ItemsAt wr2 W0.heap.size iv (bufsTo A k)) ∧ Hid (Below W0.heap.size W0 wr2)) (fun _ i _ => 8 - (intOf i).toNat)
  case atStart => exact ⟨0, by omega, rfl, Lib.hid hpre2, Lib.hid (Below.refl _ _)⟩
  case round =>
    clear hpre2
    obtain ⟨k, hk, rfl, HI, HB⟩ := hrel
    by_cases hlt2 : k < 8
    · have hk8 : (k : Int) < 8 := by omega
      have HS2 := Lib.hid (HS.out.below HB.out)
      have hzB := HB.out.size
      go_upto_region 5 with (fail)
      apply wp_region_lit
      iterate 2 (refine wl_k rfl (fun K hK => ?_); go_simp; refine hK _ ?_; clear hK K)
      refine wl_ck rfl (fun K hK => ?_); go_simp; refine ⟨_, _, ⟨rfl, rfl⟩, hK _ _ ⟨_, Item_yes s A rs HA.out k hk8 _ HS2.out, ?_⟩⟩; clear hK K; rintro e w7 ⟨v, rfl, hit, hb1⟩; refine ⟨_, rfl, ?_⟩; simp only [Zq]
      obtain ⟨B1, d1, B2, d2, rfl, ho1, ho2⟩ := hit.shape
      replace HI := Lib.hid (HI.out.below hb1)
      replace HB := Lib.hid (HB.out.trans (hb1.mono HB.out.size))
      have HO1 := Lib.hid ho1
      have HO2 := Lib.hid ho2
      clear hit ho1 ho2 HS2
      iterate 3 (refine wl_k rfl (fun K hK => ?_); go_simp; refine hK _ ?_; clear hK K)
      obtain ⟨IC, hIC⟩ : ∃ IC, IC = icells (A.buf (k : Int)).kd (.slice B1 (A.buf (k : Int)).l.length d1) (A.buf (k : Int)).seed (.slice B2 (pairsT (A.buf (k : Int)).t).length d2) := ⟨_, rfl⟩
      refine wl_new (fun ev w => ex_alloc32 rfl ev w) ?_
      intro W5 p5 hb5 hl5 h5
      refine wl_putG p5 (icells (A.buf (k : Int)).kd (.slice B1 (A.buf (k : Int)).l.length d1) (A.buf (k : Int)).seed (.slice B2 (pairsT (A.buf (k : Int)).t).length d2)) rfl rfl 32 _ h5 info32 rfl (icells_one _ _ _ _ _ _ _ _) ?_
      rw [put_noneA]
      rw [← hIC]
      have hbb := below_setRow hb5 (g := p5) hl5 IC
      replace HI := Lib.hid (HI.out.below hbb)
      replace HB := Lib.hid (HB.out.trans (hbb.mono HB.out.size))
      replace HO1 := Lib.hid (own_weak (own_below HO1.out hbb) hzB)
      replace HO2 := Lib.hid (own_weak (own_below HO2.out hbb) hzB)
      have h5' := hr_new (cs := IC) h5
      clear hb5 h5 hbb hl5 hb1
      generalize W5.setRow p5 IC = w8 at *
      subst hIC
      refine wl_k rfl (fun K hK => ?_); go_simp; refine hK _ ?_; clear hK K
      go_upto_region 8 with (fail)
      apply wp_region_lit
      refine wl_k rfl (fun K hK => ?_); go_simp; refine hK _ ?_; clear hK K
      ((with_reducible apply wl_rowG); exact rfl; exact rfl; exact rowIt h5')
      simp only [Zq]
      obtain ⟨v', w', hr, hits, hbI⟩ := run_push24 24 HI.out HB.out.size (by rw [bufsTo_length]; omega) HO1.out HO2.out
      refine wl_w rfl (ex_bs24_1 _ rfl rfl) ?_
      simp only [Zq]
      refine wl_w rfl (ex_app _ _ rfl rfl rfl hr) ?_
      simp only [Zq]
      rw [← bufsTo_snoc] at hits
      have HITS := Lib.hid hits
      have HBN := Lib.hid (HB.out.trans hbI)
      clear hr hits h5' HO1 HO2 HI hbI HB hzB
      go_wp2_with fail
      go_roundw
      case rel => exact ⟨k + 1, by omega, by go_num, HITS, HBN⟩
      case measure => simp [intOf]; omega
    · obtain rfl : k = 8 := by omega
      go_wp2_with fail
      go_ret2
      exact ⟨_, rfl, HI.out, HB.out⟩
/-- EqItem of two rows of items that hold alike -/
theorem EqItem_at (a b : Buf) {w : World} {B B' : Nat} {v v' : Value} (hl : a.l.length ≤ 1000000) (hp : (pairsT a.t).length ≤ 1000000) (hkd : a.kd = b.kd) (hsd : a.seed = b.seed) (hel : a.l = b.l) (hep : pairsT a.t = pairsT b.t) (h1 : ItemAt w B v a) (h2 : ItemAt w B' v' b) :
    Calls Try.prog 16 #[v, v'] w fun e w' => e = .returned (.bool true) ∧ Below w.heap.size w w' := by
  obtain ⟨A1, c1, A2, c2, rfl, o1, o2⟩ := h1.shape
  obtain ⟨A3, c3, A4, c4, rfl, o3, o4⟩ := h2.shape
  obtain ⟨x1, y1, e1, s1⟩ := own_str o1 rfl
  obtain ⟨x3, y3, e3, s3⟩ := own_str o3 rfl
  obtain ⟨x2, y2, e2, s2⟩ := own_prAt o2 rfl
  obtain ⟨x4, y4, e4, s4⟩ := own_prAt o4 rfl
  cases e1; cases e2; cases e3; cases e4
  exact EqItem_true a b _ _ _ _ _ _ _ _ hl hp w hkd hsd hel hep s1 s2 s3 s4
end Go.Proofs.Ytbhdgeoljlhmcaa
