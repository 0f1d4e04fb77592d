/- The length of a name, a key's value, an element, by the document. -/
import Derived.Outline
import Derived.Test.YtbhdgeoljlhmcaaQB25
import Derived.Test.YtbhdgeoljlhmcaaQB27
import Derived.Test.YtbhdgeoljlhmcaaQB14
namespace Go.Proofs.Ytbhdgeoljlhmcaa
open Go.RowKit Go.Proofs.Ytbhdgeoljlhmcaa.Nm Go.Proofs.Ytbhdgeoljlhmcaa.St
set_option linter.unusedSimpArgs false
theorem buf_wf {A : Sto} (hA : Good A) (n : Int) : (A.buf n).t = [] ∨ Wf (HH (A.buf n).seed) (A.buf n).t := by
  cases hid : A.id n with
  | none => rw [buf_none hid]; exact Or.inl rfl
  | some k =>
    have hl := id_lt hA hid
    rw [buf_of hid (List.getElem?_eq_getElem hl)]
    exact (hA.bufs k _ (List.getElem?_eq_getElem hl)).wf
theorem cn_pairs (t : Tab) : (pairsT t).length = cn t := by
  unfold pairsT cn
  induction t with
  | nil => rfl
  | cons a t ih => cases a <;> simp [*]
set_option maxHeartbeats 4000000 in
set_option maxRecDepth 100000 in
theorem LenI_no (v : Value) (A : Sto) (B : Nat) (n : Int) (hn0 : isNm n = false) (w : World) (h : DAt w B v A) :
    Calls Try.prog 42 #[v, .int .i64 n] w fun e w' => e = .returned (.tuple #[.int .i64 0, .int .i64 4]) ∧ Below w.heap.size w w' := by
  obtain ⟨nv, bv, M, sh, rfl, -, -, -⟩ := h.form
  have HD := Lib.hid h
  clear h
  go_enter Try.func42, Try.ntmps42
  go_upto_region 1 with (fail)
  refine wp_world (fun W => Below w.heap.size w W ∧ W.heap[w.heap.size]? = some (.cells (sc66 nv bv M sh) 66 (0, 0))) ⟨(Below.refl w.heap.size w).alloc (Nat.le_refl _) _, ha_new rfl⟩ ?_
  rintro W ⟨hb, g1⟩
  replace HD := Lib.hid (HD.out.below hb)
  apply wp_region_lit
  ((with_reducible apply wl_rowG); exact rfl; exact rfl; exact rowS g1); try simp only [Zy]
  refine wl_k rfl (fun K hK => ?_); go_simp; refine hK _ ?_; clear hK K
  refine wl_ck rfl (fun K hK => ?_); go_simp; refine ⟨_, _, ⟨rfl, rfl⟩, hK _ _ ⟨_, ItemI_no _ A B n hn0 _ HD.out, ?_⟩⟩; clear hK K; rintro e w1 ⟨rfl, hb1⟩; refine ⟨_, rfl, ?_⟩; simp only [Zq]
  replace hb := hb.trans (hb1.mono hb.size)
  clear hb1 g1 HD
  iterate 3 (refine wl_k rfl (fun K hK => ?_); go_simp; refine hK _ ?_; clear hK K)
  refine wl_new (fun ev w => ex_alloc32 rfl ev w) ?_
  intro W5 p5 hb5 hl5 h5
  refine wl_putG p5 (icells 0 (.slice none 0 0) 0 (.slice none 0 0)) rfl rfl 32 _ h5 info32 rfl (icells_one _ _ _ _ _ _ _ _) ?_
  rw [put_noneA]
  have H5 := Lib.hid (hr_new (cs := icells 0 (.slice none 0 0) 0 (.slice none 0 0)) h5)
  have HB := Lib.hid (below_setRow (hb.trans (hb5.mono hb.size)) (g := p5) (Nat.le_trans hb.size hl5) (icells 0 (.slice none 0 0) 0 (.slice none 0 0)))
  clear hb hb5 hl5 h5
  generalize W5.setRow p5 (icells 0 (.slice none 0 0) 0 (.slice none 0 0)) = w5 at *
  obtain ⟨z0, z1, z2, z3⟩ := ic_cell H5.out
  go_wp2_with fail
  go_ret2
  exact ⟨rfl, HB.out⟩
set_option maxHeartbeats 4000000 in
set_option maxRecDepth 100000 in
theorem LenI_yes (v : Value) (A : Sto) (B : Nat) (hA : Good A) (f : Nat) (hf : (f : Int) < 8) (w : World) (h : DAt w B v A) :
    Calls Try.prog 42 #[v, .int .i64 (f : Int)] w fun e w' => e = .returned (.tuple #[.int .i64 (lenA (A.buf (f : Int))), .int .i64 0]) ∧ Below w.heap.size w w' := by
  have HA := Lib.hid hA
  clear hA
  obtain ⟨nv, bv, M, sh, rfl, -, -, -⟩ := h.form
  have HD := Lib.hid h
  clear h
  go_enter Try.func42, Try.ntmps42
  go_upto_region 1 with (fail)
  refine wp_world (fun W => Below w.heap.size w W ∧ W.heap[w.heap.size]? = some (.cells (sc66 nv bv M sh) 66 (0, 0))) ⟨(Below.refl w.heap.size w).alloc (Nat.le_refl _) _, ha_new rfl⟩ ?_
  rintro W ⟨hb, g1⟩
  replace HD := Lib.hid (HD.out.below hb)
  apply wp_region_lit
  ((with_reducible apply wl_rowG); exact rfl; exact rfl; exact rowS g1); try simp only [Zy]
  refine wl_k rfl (fun K hK => ?_); go_simp; refine hK _ ?_; clear hK K
  refine wl_ck rfl (fun K hK => ?_); go_simp; refine ⟨_, _, ⟨rfl, rfl⟩, hK _ _ ⟨_, ItemI_yes _ A B HA.out f hf _ HD.out, ?_⟩⟩; clear hK K; rintro e w1 ⟨v, rfl, hit, hb1⟩; refine ⟨_, rfl, ?_⟩; simp only [Zq]
  obtain ⟨B1, d1, B2, d2, rfl, ho1, ho2⟩ := hit.shape
  replace hb := hb.trans (hb1.mono hb.size)
  obtain ⟨X, hX⟩ : ∃ X, X = A.buf (f : Int) := ⟨_, rfl⟩
  have HXG : Hid ((X.l.length ≤ 1000 ∧ X.t.length ≤ 1000) ∧ (X.t = [] ∨ Wf (HH X.seed) X.t)) := Lib.hid (by rw [hX]; exact ⟨buf_small HA.out _, buf_wf HA.out _⟩)
  rw [← hX] at ho1 ho2 ⊢
  have HX := Lib.hid hX
  have HO1 := Lib.hid ho1
  have HO2 := Lib.hid ho2
  clear hb1 g1 HD hit ho1 ho2 hX HA
  obtain ⟨nl, hnl⟩ : ∃ n, n = X.l.length := ⟨_, rfl⟩
  obtain ⟨np, hnp⟩ : ∃ n, n = (pairsT X.t).length := ⟨_, rfl⟩
  rw [← hnl] at HO1 ⊢
  rw [← hnp] at HO2 ⊢
  have HNL := Lib.hid hnl
  have HNP := Lib.hid hnp
  have hnlb : nl ≤ 1000 := by rw [hnl]; exact HXG.out.1.1
  have hnpb : np ≤ 1000 := by rw [hnp]; exact Nat.le_trans (pairsT_le _) HXG.out.1.2
  clear hnl hnp
  iterate 3 (refine wl_k rfl (fun K hK => ?_); go_simp; refine hK _ ?_; clear hK K)
  refine wl_new (fun ev w => ex_alloc32 rfl ev w) ?_
  intro W5 p5 hb5 hl5 h5
  refine wl_putG p5 (icells X.kd (.slice B1 nl d1) X.seed (.slice B2 np d2)) rfl rfl 32 _ h5 info32 rfl (icells_one _ _ _ _ _ _ _ _) ?_
  rw [put_noneA]
  have H5 := Lib.hid (hr_new (cs := icells X.kd (.slice B1 nl d1) X.seed (.slice B2 np d2)) h5)
  have HB := Lib.hid (below_setRow (hb.trans (hb5.mono hb.size)) (g := p5) (Nat.le_trans hb.size hl5) (icells X.kd (.slice B1 nl d1) X.seed (.slice B2 np d2)))
  replace HO1 := Lib.hid (own_rowT (own_below HO1.out hb5) h5 (by decide) (icells X.kd (.slice B1 nl d1) X.seed (.slice B2 np d2)))
  replace HO2 := Lib.hid (own_rowT (own_below HO2.out hb5) h5 (by decide) (icells X.kd (.slice B1 nl d1) X.seed (.slice B2 np d2)))
  clear hb hb5 hl5 h5
  generalize W5.setRow p5 (icells X.kd (.slice B1 nl d1) X.seed (.slice B2 np d2)) = w5 at *
  obtain ⟨z0, z1, z2, z3⟩ := ic_cell H5.out
  have hw : IntKind.i64.wrap ((nl : Int) + (np : Int)) = (nl : Int) + (np : Int) := wrap_small _ (by omega) (by omega)
  have HL : Hid ((nl : Int) + (np : Int) = lenA X) := Lib.hid (by unfold lenA; rw [HNL.out, HNP.out, cn_pairs])
  go_wp2_with fail
  go_ret2
  exact ⟨by rw [← HX.out, ← HL.out]; rfl, HB.out⟩
theorem own_pair2 {w : World} {B p cap n : Nat} {L : List Ent} (h : w.ownsRow B 91 2 (.slice (some ⟨p, 0, none⟩) n cap) n (prow L)) {k : Nat} {e : Ent} (he : L[k]? = some e) : w.cell? ⟨p, k * 2, none⟩ = some (.string e.1) ∧ w.cell? ⟨p, k * 2 + 1, none⟩ = some (.int .i64 e.2) := by
  have hlen : L.length = n := by have := h.1; rw [prow_length] at this; omega
  subst hlen
  have h1 := own_cells h rfl (k * 2) _ (prow_get (k := e.1) (v := e.2) he).1
  have h2 := own_cells h rfl (k * 2 + 1) _ (prow_get (k := e.1) (v := e.2) he).2
  rw [Addr.add_mid, Nat.zero_add] at h1 h2
  exact ⟨h1, h2⟩
theorem getA_at {b : Buf} (hk : b.kd = 2) (hw : b.t = [] ∨ Wf (HH b.seed) b.t) {j : Nat} {k : ByteArray} {x : Int} (h : (pairsT b.t)[j]? = some (k, x)) : getA b k = (x, 0) := by
  obtain ⟨i, hi, hf, hv⟩ := pairs_fnd hw h
  unfold getA
  rw [if_pos hk]
  unfold fnd at hf
  cases hq : findT (HH b.seed) b.t k with
  | none => rw [hq] at hf; simp at hf
  | some q =>
    rw [hq] at hf
    have : q = i := by have h9 : (q : Int) = (i : Int) := by simpa using hf
                       omega
    subst this
    simp only [hv]
theorem getA_none {b : Buf} (hk : b.kd = 2) (hw : b.t = [] ∨ Wf (HH b.seed) b.t) {k : ByteArray} (h : ∀ j, j < (pairsT b.t).length → ∀ e, (pairsT b.t)[j]? = some e → e.1 ≠ k) : getA b k = (0, 250) := by
  have hf := fnd_no hw (k := k) (fun i hi hc => by
    have hp := eb_some hc.1
    rw [hc.2] at hp
    have hm : (k, Go.Proofs.Ytbhdgeoljlhmcaa.ev (pl b.t i)) ∈ pairsT b.t := has_mem.1 ⟨i, hi, hp⟩
    obtain ⟨j, hj⟩ := List.getElem?_of_mem hm
    exact h j (List.getElem?_eq_some_iff.1 hj).1 _ hj rfl)
  unfold getA
  rw [if_pos hk]
  unfold fnd at hf
  cases hq : findT (HH b.seed) b.t k with
  | none => rfl
  | some q => rw [hq] at hf; simp at hf
set_option maxHeartbeats 4000000 in
set_option maxRecDepth 100000 in
theorem GetI_no (v : Value) (A : Sto) (B : Nat) (n : Int) (hn0 : isNm n = false) (key : ByteArray) (w : World) (h : DAt w B v A) :
    Calls Try.prog 45 #[v, .int .i64 n, .string key] w fun e w' => e = .returned (.tuple #[.int .i64 0, .int .i64 4]) ∧ Below w.heap.size w w' := by
  obtain ⟨nv, bv, M, sh, rfl, -, -, -⟩ := h.form
  have HD := Lib.hid h
  clear h
  go_enter Try.func45, Try.ntmps45
  go_upto_region 1 with (fail)
  refine wp_world (fun W => Below w.heap.size w W ∧ W.heap[w.heap.size]? = some (.cells (sc66 nv bv M sh) 66 (0, 0))) ⟨(Below.refl w.heap.size w).alloc (Nat.le_refl _) _, ha_new rfl⟩ ?_
  rintro W ⟨hb, g1⟩
  replace HD := Lib.hid (HD.out.below hb)
  apply wp_region_lit
  ((with_reducible apply wl_rowG); exact rfl; exact rfl; exact rowS g1); try simp only [Zy]
  refine wl_k rfl (fun K hK => ?_); go_simp; refine hK _ ?_; clear hK K
  refine wl_ck rfl (fun K hK => ?_); go_simp; refine ⟨_, _, ⟨rfl, rfl⟩, hK _ _ ⟨_, ItemI_no _ A B n hn0 _ HD.out, ?_⟩⟩; clear hK K; rintro e w1 ⟨rfl, hb1⟩; refine ⟨_, rfl, ?_⟩; simp only [Zq]
  replace hb := hb.trans (hb1.mono hb.size)
  clear hb1 g1 HD
  iterate 3 (refine wl_k rfl (fun K hK => ?_); go_simp; refine hK _ ?_; clear hK K)
  refine wl_new (fun ev w => ex_alloc32 rfl ev w) ?_
  intro W5 p5 hb5 hl5 h5
  refine wl_putG p5 (icells 0 (.slice none 0 0) 0 (.slice none 0 0)) rfl rfl 32 _ h5 info32 rfl (icells_one _ _ _ _ _ _ _ _) ?_
  rw [put_noneA]
  have H5 := Lib.hid (hr_new (cs := icells 0 (.slice none 0 0) 0 (.slice none 0 0)) h5)
  have HB := Lib.hid (below_setRow (hb.trans (hb5.mono hb.size)) (g := p5) (Nat.le_trans hb.size hl5) (icells 0 (.slice none 0 0) 0 (.slice none 0 0)))
  clear hb hb5 hl5 h5
  generalize W5.setRow p5 (icells 0 (.slice none 0 0) 0 (.slice none 0 0)) = w5 at *
  obtain ⟨z0, z1, z2, z3⟩ := ic_cell H5.out
  go_wp2_with fail
  go_ret2
  exact ⟨rfl, HB.out⟩
set_option maxHeartbeats 4000000 in
set_option maxRecDepth 100000 in
theorem GetI_yes (v : Value) (A : Sto) (B : Nat) (hA : Good A) (f : Nat) (hf : (f : Int) < 8) (key : ByteArray) (w : World) (h : DAt w B v A) :
    Calls Try.prog 45 #[v, .int .i64 (f : Int), .string key] w fun e w' => e = .returned (.tuple #[.int .i64 (getA (A.buf (f : Int)) key).1, .int .i64 (getA (A.buf (f : Int)) key).2]) ∧ Below w.heap.size w w' := by
  have HA := Lib.hid hA
  clear hA
  obtain ⟨nv, bv, M, sh, rfl, -, -, -⟩ := h.form
  have HD := Lib.hid h
  clear h
  go_enter Try.func45, Try.ntmps45
  go_upto_region 1 with (fail)
  refine wp_world (fun W => Below w.heap.size w W ∧ W.heap[w.heap.size]? = some (.cells (sc66 nv bv M sh) 66 (0, 0))) ⟨(Below.refl w.heap.size w).alloc (Nat.le_refl _) _, ha_new rfl⟩ ?_
  rintro W ⟨hb, g1⟩
  replace HD := Lib.hid (HD.out.below hb)
  apply wp_region_lit
  ((with_reducible apply wl_rowG); exact rfl; exact rfl; exact rowS g1); try simp only [Zy]
  refine wl_k rfl (fun K hK => ?_); go_simp; refine hK _ ?_; clear hK K
  refine wl_ck rfl (fun K hK => ?_); go_simp; refine ⟨_, _, ⟨rfl, rfl⟩, hK _ _ ⟨_, ItemI_yes _ A B HA.out f hf _ HD.out, ?_⟩⟩; clear hK K; rintro e w1 ⟨v, rfl, hit, hb1⟩; refine ⟨_, rfl, ?_⟩; simp only [Zq]
  obtain ⟨B1, d1, B2, d2, rfl, ho1, ho2⟩ := hit.shape
  replace hb := hb.trans (hb1.mono hb.size)
  obtain ⟨X, hX⟩ : ∃ X, X = A.buf (f : Int) := ⟨_, rfl⟩
  have HXG : Hid ((X.l.length ≤ 1000 ∧ X.t.length ≤ 1000) ∧ (X.t = [] ∨ Wf (HH X.seed) X.t)) := Lib.hid (by rw [hX]; exact ⟨buf_small HA.out _, buf_wf HA.out _⟩)
  rw [← hX] at ho1 ho2 ⊢
  have HX := Lib.hid hX
  have HO1 := Lib.hid ho1
  have HO2 := Lib.hid ho2
  clear hb1 g1 HD hit ho1 ho2 hX HA
  obtain ⟨nl, hnl⟩ : ∃ n, n = X.l.length := ⟨_, rfl⟩
  obtain ⟨np, hnp⟩ : ∃ n, n = (pairsT X.t).length := ⟨_, rfl⟩
  rw [← hnl] at HO1 ⊢
  rw [← hnp] at HO2 ⊢
  have HNL := Lib.hid hnl
  have HNP := Lib.hid hnp
  have hnlb : nl ≤ 1000 := by rw [hnl]; exact HXG.out.1.1
  have hnpb : np ≤ 1000 := by rw [hnp]; exact Nat.le_trans (pairsT_le _) HXG.out.1.2
  clear hnl hnp
  iterate 3 (refine wl_k rfl (fun K hK => ?_); go_simp; refine hK _ ?_; clear hK K)
  refine wl_new (fun ev w => ex_alloc32 rfl ev w) ?_
  intro W5 p5 hb5 hl5 h5
  refine wl_putG p5 (icells X.kd (.slice B1 nl d1) X.seed (.slice B2 np d2)) rfl rfl 32 _ h5 info32 rfl (icells_one _ _ _ _ _ _ _ _) ?_
  rw [put_noneA]
  have H5 := Lib.hid (hr_new (cs := icells X.kd (.slice B1 nl d1) X.seed (.slice B2 np d2)) h5)
  have HB := Lib.hid (below_setRow (hb.trans (hb5.mono hb.size)) (g := p5) (Nat.le_trans hb.size hl5) (icells X.kd (.slice B1 nl d1) X.seed (.slice B2 np d2)))
  replace HO1 := Lib.hid (own_rowT (own_below HO1.out hb5) h5 (by decide) (icells X.kd (.slice B1 nl d1) X.seed (.slice B2 np d2)))
  replace HO2 := Lib.hid (own_rowT (own_below HO2.out hb5) h5 (by decide) (icells X.kd (.slice B1 nl d1) X.seed (.slice B2 np d2)))
  clear hb hb5 hl5 h5
  generalize W5.setRow p5 (icells X.kd (.slice B1 nl d1) X.seed (.slice B2 np d2)) = w5 at *
  obtain ⟨z0, z1, z2, z3⟩ := ic_cell H5.out
  by_cases hkd : X.kd = 2
  · have HKD := Lib.hid hkd
    rw [hkd] at z0
    clear hkd
    refine wl_k rfl (fun K hK => ?_); go_simp; refine hK _ ?_; clear hK K
    go_wp2_with fail
    have HN0 : Hid (∀ j, j < 0 → ∀ e, (pairsT X.t)[j]? = some e → e.1 ≠ key) := Lib.hid (fun j hj => by omega)
    go_loopw [10] (fun i wr => wr = w5 ∧ ∃ j : Nat, j ≤ np ∧ i = .int .i64 (j : Int) ∧ Hid (∀ k, k < j → ∀ e, (pairsT X.t)[k]? = some e → e.1 ≠ key)) (fun i _ => np - (intOf i).toNat)
    case atStart => exact ⟨rfl, 0, by omega, rfl, HN0⟩
    case round =>
      clear HN0
      obtain ⟨rfl, j, hj, rfl, HNO⟩ := hrel
      by_cases hlt : j < np
      · have hltI : (j : Int) < (np : Int) := by omega
        obtain ⟨⟨k, x⟩, hkx⟩ : ∃ e, (pairsT X.t)[j]? = some e := ⟨_, List.getElem?_eq_getElem (by rw [← HNP.out]; exact hlt)⟩
        obtain ⟨p9, c9, e9, -⟩ : ∃ p c, Value.slice B2 np d2 = .slice (some ⟨p, 0, none⟩) np c ∧ True := by
          rcases HO2.out.2 with ⟨_, h0⟩ | ⟨q, cap, cur, hv, _⟩
          · omega
          · exact ⟨q, cap, hv, trivial⟩
        have hB2 : B2 = some ⟨p9, 0, none⟩ := by cases e9; rfl
        clear e9
        subst hB2
        obtain ⟨q1, q2⟩ := own_pair2 HO2.out hkx
        simp only at q1 q2
        have HKX := Lib.hid hkx
        clear hkx
        cases hke : (k.toList == key.toList) with
        | true =>
          have hk2 : k = key := by have := key_beq k key; rw [hke] at this; simpa using this.symm
          have HGA : Hid (getA X key = (x, 0)) := Lib.hid (getA_at HKD.out HXG.out.2 (by rw [HKX.out, hk2]))
          clear hk2 HNO
          go_wp2_with fail
          go_ret2
          exact ⟨by rw [← HX.out, HGA.out]; rfl, HB.out⟩
        | false =>
          have HNO2 : Hid (∀ i, i < j + 1 → ∀ e, (pairsT X.t)[i]? = some e → e.1 ≠ key) := Lib.hid (fun i hi e he => if h : i < j then HNO.out i h e he else by
            obtain rfl : i = j := by omega
            rw [HKX.out] at he
            cases he
            intro h9
            rw [show k = key from h9] at hke
            simp at hke)
          clear HNO
          go_wp2_with fail
          go_roundw
          case rel => exact ⟨trivial, j + 1, by omega, by go_num, HNO2⟩
          case measure => simp [intOf]; omega
      · obtain rfl : j = np := by omega
        have HGA : Hid (getA X key = (0, 250)) := Lib.hid (getA_none HKD.out HXG.out.2 (by rw [← HNP.out]; exact HNO.out))
        clear HNO
        go_wp2_with fail
        go_ret2
        exact ⟨by rw [← HX.out, HGA.out]; rfl, HB.out⟩
  · have hkd2 : (X.kd != 2) = true := by simpa using hkd
    have HGA : Hid (getA X key = (0, 141)) := Lib.hid (by unfold getA; rw [if_neg hkd])
    clear hkd
    go_wp2_with fail
    go_ret2
    exact ⟨by rw [← HX.out, HGA.out]; rfl, HB.out⟩
set_option maxHeartbeats 4000000 in
set_option maxRecDepth 100000 in
theorem AtI_no (v : Value) (A : Sto) (B : Nat) (n : Int) (hn0 : isNm n = false) (i : Int) (w : World) (h : DAt w B v A) :
    Calls Try.prog 47 #[v, .int .i64 n, .int .i64 i] w fun e w' => e = .returned (.tuple #[.string ⟨#[]⟩, .int .i64 4]) ∧ Below w.heap.size w w' := by
  obtain ⟨nv, bv, M, sh, rfl, -, -, -⟩ := h.form
  have HD := Lib.hid h
  clear h
  go_enter Try.func47, Try.ntmps47
  go_upto_region 1 with (fail)
  refine wp_world (fun W => Below w.heap.size w W ∧ W.heap[w.heap.size]? = some (.cells (sc66 nv bv M sh) 66 (0, 0))) ⟨(Below.refl w.heap.size w).alloc (Nat.le_refl _) _, ha_new rfl⟩ ?_
  rintro W ⟨hb, g1⟩
  replace HD := Lib.hid (HD.out.below hb)
  apply wp_region_lit
  ((with_reducible apply wl_rowG); exact rfl; exact rfl; exact rowS g1); try simp only [Zy]
  refine wl_k rfl (fun K hK => ?_); go_simp; refine hK _ ?_; clear hK K
  refine wl_ck rfl (fun K hK => ?_); go_simp; refine ⟨_, _, ⟨rfl, rfl⟩, hK _ _ ⟨_, ItemI_no _ A B n hn0 _ HD.out, ?_⟩⟩; clear hK K; rintro e w1 ⟨rfl, hb1⟩; refine ⟨_, rfl, ?_⟩; simp only [Zq]
  replace hb := hb.trans (hb1.mono hb.size)
  clear hb1 g1 HD
  iterate 3 (refine wl_k rfl (fun K hK => ?_); go_simp; refine hK _ ?_; clear hK K)
  refine wl_new (fun ev w => ex_alloc32 rfl ev w) ?_
  intro W5 p5 hb5 hl5 h5
  refine wl_putG p5 (icells 0 (.slice none 0 0) 0 (.slice none 0 0)) rfl rfl 32 _ h5 info32 rfl (icells_one _ _ _ _ _ _ _ _) ?_
  rw [put_noneA]
  have H5 := Lib.hid (hr_new (cs := icells 0 (.slice none 0 0) 0 (.slice none 0 0)) h5)
  have HB := Lib.hid (below_setRow (hb.trans (hb5.mono hb.size)) (g := p5) (Nat.le_trans hb.size hl5) (icells 0 (.slice none 0 0) 0 (.slice none 0 0)))
  clear hb hb5 hl5 h5
  generalize W5.setRow p5 (icells 0 (.slice none 0 0) 0 (.slice none 0 0)) = w5 at *
  obtain ⟨z0, z1, z2, z3⟩ := ic_cell H5.out
  go_wp2_with fail
  go_ret2
  exact ⟨rfl, HB.out⟩
set_option maxHeartbeats 4000000 in
set_option maxRecDepth 100000 in
theorem AtI_yes (v : Value) (A : Sto) (B : Nat) (hA : Good A) (f : Nat) (hf : (f : Int) < 8) (i : Int) (w : World) (h : DAt w B v A) :
    Calls Try.prog 47 #[v, .int .i64 (f : Int), .int .i64 i] w fun e w' => e = .returned (.tuple #[.string (atA (A.buf (f : Int)) i).1, .int .i64 (atA (A.buf (f : Int)) i).2]) ∧ Below w.heap.size w w' := by
  have HA := Lib.hid hA
  clear hA
  obtain ⟨nv, bv, M, sh, rfl, -, -, -⟩ := h.form
  have HD := Lib.hid h
  clear h
  go_enter Try.func47, Try.ntmps47
  go_upto_region 1 with (fail)
  refine wp_world (fun W => Below w.heap.size w W ∧ W.heap[w.heap.size]? = some (.cells (sc66 nv bv M sh) 66 (0, 0))) ⟨(Below.refl w.heap.size w).alloc (Nat.le_refl _) _, ha_new rfl⟩ ?_
  rintro W ⟨hb, g1⟩
  replace HD := Lib.hid (HD.out.below hb)
  apply wp_region_lit
  ((with_reducible apply wl_rowG); exact rfl; exact rfl; exact rowS g1); try simp only [Zy]
  refine wl_k rfl (fun K hK => ?_); go_simp; refine hK _ ?_; clear hK K
  refine wl_ck rfl (fun K hK => ?_); go_simp; refine ⟨_, _, ⟨rfl, rfl⟩, hK _ _ ⟨_, ItemI_yes _ A B HA.out f hf _ HD.out, ?_⟩⟩; clear hK K; rintro e w1 ⟨v, rfl, hit, hb1⟩; refine ⟨_, rfl, ?_⟩; simp only [Zq]
  obtain ⟨B1, d1, B2, d2, rfl, ho1, ho2⟩ := hit.shape
  replace hb := hb.trans (hb1.mono hb.size)
  obtain ⟨X, hX⟩ : ∃ X, X = A.buf (f : Int) := ⟨_, rfl⟩
  have HXG : Hid ((X.l.length ≤ 1000 ∧ X.t.length ≤ 1000) ∧ (X.t = [] ∨ Wf (HH X.seed) X.t)) := Lib.hid (by rw [hX]; exact ⟨buf_small HA.out _, buf_wf HA.out _⟩)
  rw [← hX] at ho1 ho2 ⊢
  have HX := Lib.hid hX
  have HO1 := Lib.hid ho1
  have HO2 := Lib.hid ho2
  clear hb1 g1 HD hit ho1 ho2 hX HA
  obtain ⟨nl, hnl⟩ : ∃ n, n = X.l.length := ⟨_, rfl⟩
  obtain ⟨np, hnp⟩ : ∃ n, n = (pairsT X.t).length := ⟨_, rfl⟩
  rw [← hnl] at HO1 ⊢
  rw [← hnp] at HO2 ⊢
  have HNL := Lib.hid hnl
  have HNP := Lib.hid hnp
  have hnlb : nl ≤ 1000 := by rw [hnl]; exact HXG.out.1.1
  have hnpb : np ≤ 1000 := by rw [hnp]; exact Nat.le_trans (pairsT_le _) HXG.out.1.2
  clear hnl hnp
  iterate 3 (refine wl_k rfl (fun K hK => ?_); go_simp; refine hK _ ?_; clear hK K)
  refine wl_new (fun ev w => ex_alloc32 rfl ev w) ?_
  intro W5 p5 hb5 hl5 h5
  refine wl_putG p5 (icells X.kd (.slice B1 nl d1) X.seed (.slice B2 np d2)) rfl rfl 32 _ h5 info32 rfl (icells_one _ _ _ _ _ _ _ _) ?_
  rw [put_noneA]
  have H5 := Lib.hid (hr_new (cs := icells X.kd (.slice B1 nl d1) X.seed (.slice B2 np d2)) h5)
  have HB := Lib.hid (below_setRow (hb.trans (hb5.mono hb.size)) (g := p5) (Nat.le_trans hb.size hl5) (icells X.kd (.slice B1 nl d1) X.seed (.slice B2 np d2)))
  replace HO1 := Lib.hid (own_rowT (own_below HO1.out hb5) h5 (by decide) (icells X.kd (.slice B1 nl d1) X.seed (.slice B2 np d2)))
  replace HO2 := Lib.hid (own_rowT (own_below HO2.out hb5) h5 (by decide) (icells X.kd (.slice B1 nl d1) X.seed (.slice B2 np d2)))
  clear hb hb5 hl5 h5
  generalize W5.setRow p5 (icells X.kd (.slice B1 nl d1) X.seed (.slice B2 np d2)) = w5 at *
  obtain ⟨z0, z1, z2, z3⟩ := ic_cell H5.out
  by_cases hkd : X.kd = 1
  · have HKD := Lib.hid hkd
    rw [hkd] at z0
    clear hkd
    by_cases hi0 : i < 0
    · have HGA : Hid (atA X i = (⟨#[]⟩, 241)) := Lib.hid (by unfold atA; rw [if_pos HKD.out, if_pos (Or.inl hi0)])
      go_wp2_with fail
      go_ret2
      exact ⟨by rw [← HX.out, HGA.out]; rfl, HB.out⟩
    · by_cases hi1 : (nl : Int) ≤ i
      · have HGA : Hid (atA X i = (⟨#[]⟩, 241)) := Lib.hid (by unfold atA; rw [if_pos HKD.out, if_pos (Or.inr (by rw [← HNL.out]; exact hi1))])
        go_wp2_with fail
        go_ret2
        exact ⟨by rw [← HX.out, HGA.out]; rfl, HB.out⟩
      · obtain ⟨m, rfl⟩ : ∃ m : Nat, i = (m : Int) := ⟨i.toNat, by omega⟩
        have hm : m < nl := by omega
        obtain ⟨p9, c9, e9, -⟩ := own_p HO1.out (by omega)
        have hB1 : B1 = some ⟨p9, 0, none⟩ := by cases e9; rfl
        clear e9
        subst hB1
        obtain ⟨x, hx⟩ : ∃ x, X.l[m]? = some x := ⟨_, List.getElem?_eq_getElem (by rw [← HNL.out]; exact hm)⟩
        have hcx : w5.cell? ⟨p9, m, none⟩ = some (.string x) := by
          rw [HO1.out.cellAt m (by omega)]
          unfold strs
          rw [List.getElem?_map, hx]; rfl
        have HGA : Hid (atA X (m : Int) = (x, 0)) := Lib.hid (by
          unfold atA
          rw [if_pos HKD.out, if_neg (by rw [← HNL.out]; omega)]
          simp [List.getD_eq_getElem?_getD, hx])
        clear hx
        go_wp2_with fail
        go_ret2
        exact ⟨by rw [← HX.out, HGA.out]; rfl, HB.out⟩
  · have hkd2 : (X.kd != 1) = true := by simpa using hkd
    have HGA : Hid (atA X i = (⟨#[]⟩, 141)) := Lib.hid (by unfold atA; rw [if_neg hkd])
    clear hkd
    go_wp2_with fail
    go_ret2
    exact ⟨by rw [← HX.out, HGA.out]; rfl, HB.out⟩
end Go.Proofs.Ytbhdgeoljlhmcaa
