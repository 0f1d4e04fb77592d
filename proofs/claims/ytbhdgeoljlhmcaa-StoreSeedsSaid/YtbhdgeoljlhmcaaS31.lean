/- What an operation does, by the program: all kinds; the store stays good. -/
import Derived.Test.YtbhdgeoljlhmcaaS21
import Derived.Test.YtbhdgeoljlhmcaaS23
import Derived.Test.YtbhdgeoljlhmcaaS25
import Derived.Test.YtbhdgeoljlhmcaaS26
import Derived.Test.YtbhdgeoljlhmcaaS27
import Derived.Test.YtbhdgeoljlhmcaaS29
import Derived.Test.YtbhdgeoljlhmcaaS30
import Derived.Outline
namespace Go.Proofs.Ytbhdgeoljlhmcaa
open Go.RowKit Go.Proofs.Ytbhdgeoljlhmcaa.Nm Go.Proofs.Ytbhdgeoljlhmcaa.St
theorem ref_form {A : Sto} {o : OpV} (h : refA A o = 0) : formS o = true := by
  cases hq : formS o with
  | true => rfl
  | false => unfold refA at h; rw [hq] at h; simp at h
theorem Do_any (s : Nat) (A : Sto) (rs : List Row) (hA : Good A) (hm : A.bufs.length ≤ 100000) (hs0 : 0 ≤ A.shared) (hs1 : A.shared ≤ 100000) (o : OpV) (w : World) (h : StoreAt w s A rs) :
    Calls Try.prog 19 #[.pointer (some ⟨s, 0, none⟩), .agg o.cells] w fun e w' => DoPost s A rs o w e w' := by
  by_cases hr : refA A o = 0
  · rcases formS_kind (ref_form hr) with hk | hk | hk | hk | hk | hk | hk | hk | hk | hk | hk
    · exact Do_1 s A rs hA hm o hk hr w h
    · exact Do_2 s A rs hA o hk hr w h
    · exact Do_3 s A rs hA hm hs0 hs1 o hk hr w h
    · exact Do_4 s A rs hA hm hs0 hs1 o hk hr w h
    · exact Do_5 s A rs hA hm hs0 hs1 o hk hr w h
    · exact Do_6 s A rs hA hm o hk hr w h
    · exact Do_7 s A rs hA hm hs0 hs1 o hk hr w h
    · exact Do_8 s A rs hA hm o hk hr w h
    · exact Do_9 s A rs hA hm hs0 hs1 o hk hr w h
    · exact Do_10 s A rs hA hm hs0 hs1 o hk hr w h
    · exact Do_11 s A rs hA hm o hk hr w h
  · exact Do_err s A rs hA o hr w h
/-- what is known where an operation is not refused -/
theorem ref_key {A : Sto} {o : OpV} (h : refA A o = 0) (hk : (useG o.kind).key = true) : o.key.size ≤ 24 := by
  have hf := ref_form h
  unfold refA at h
  rw [hf] at h
  simp only [Bool.true_eq_false, if_false] at h
  split at h
  · cases h
  · split at h
    · cases h
    · rename_i h2; rw [not_or] at h2; have := h2.1; simp only [hk, true_and] at this; omega
theorem ref_kd {A : Sto} {o : OpV} (h : refA A o = 0) (hk : (useG o.kind).kind ≠ 0) : (A.buf o.fr).kd = (useG o.kind).kind := by
  have hf := ref_form h
  apply Classical.byContradiction
  intro hne
  unfold refA at h
  rw [hf] at h
  simp only [Bool.true_eq_false, if_false] at h
  rw [if_pos ⟨hk, hne⟩] at h
  cases h
theorem id_of_kd {A : Sto} {n : Int} (h : (A.buf n).kd ≠ 0) : ∃ k, A.id n = some k := by
  cases hq : A.id n with
  | none => rw [buf_none hq] at h; exact absurd rfl h
  | some k => exact ⟨k, rfl⟩
theorem Good.buf {A : Sto} (hA : Good A) {n : Int} (h0 : 0 ≤ n) (h8 : n < 8) (h : (A.buf n).kd ≠ 0) : GoodB (A.buf n) := by
  obtain ⟨k, hk⟩ := id_of_kd h
  have hn : A.names[n.toNat]? = some (some k) := by rw [id_names hA h0 h8, hk]
  have hl := hA.there _ _ hn
  refine hA.bufs k _ ?_
  unfold Sto.buf; rw [hk]; show A.bufs[k]? = some (A.bufs.getD k noBuf); rw [List.getD_eq_getElem?_getD, List.getElem?_eq_getElem hl]; rfl
theorem good_change {A : Sto} (hA : Good A) {n : Int} (h0 : GoodB (A.buf n)) {b : Buf} (hb : GoodB b) : Good (A.change n b) := by
  unfold Sto.change
  exact good_put (good_own hA h0) hb
theorem short_of {t : Tab} (h : ∀ k v, Has t k v → k.size ≤ 1000000000) : Short t := by
  intro j
  cases hq : pl t j with
  | none => exact Nat.zero_le _
  | some x =>
    obtain ⟨k, v⟩ := x
    refine h k v ?_
    by_cases hl : t.length = 0
    · have : t = [] := List.length_eq_zero_iff.1 hl
      subst this; simp [pl] at hq
    · exact ⟨j % t.length, Nat.mod_lt _ (by omega), by rw [pl_mod]; exact hq⟩
theorem short_has {t : Tab} (h : Short t) {k : ByteArray} {v : Int} (hh : Has t k v) : k.size ≤ 1000000000 := by
  obtain ⟨i, hi, hp⟩ := hh
  have := h i
  rw [hp] at this
  exact this
theorem wf_setv {H : ByteArray → Nat} {t : Tab} (hw : Wf H t) {i : Nat} (hi : i < t.length) {k : ByteArray} {v0 : Int} (hp : pl t i = some (k, v0)) (v : Int) : Wf H (t.set i (some (k, v))) := by
  have hoc : ∀ j, occ (t.set i (some (k, v))) j = occ t j := fun j => by
    rw [occ_set hi]
    by_cases e : j % t.length = i
    · rw [← occ_mod t j, e]; unfold occ; rw [hp]; simp
    · simp [e]
  have hpl : ∀ j k' v', j < t.length → pl (t.set i (some (k, v))) j = some (k', v') → ∃ v2, pl t j = some (k', v2) := fun j k' v' hj h => by
    rw [pl_set hi hj] at h
    by_cases e : j = i
    · rw [if_pos e] at h; cases h; subst e; exact ⟨_, hp⟩
    · rw [if_neg e] at h; exact ⟨_, h⟩
  refine ⟨fun j k' v' hj h => ?_, fun j l k' v1 v2 hj hl h1 h2 => ?_, ?_⟩
  · simp only [List.length_set] at hj ⊢
    obtain ⟨v2, h2⟩ := hpl j k' v' hj h
    obtain ⟨d, h3, h4, h5⟩ := hw.way j k' v2 hj h2
    exact ⟨d, h3, h4, fun e he => by rw [hoc]; exact h5 e he⟩
  · simp only [List.length_set] at hj hl
    obtain ⟨a, ha⟩ := hpl j k' v1 hj h1
    obtain ⟨b, hb⟩ := hpl l k' v2 hl h2
    exact hw.one j l k' a b hj hl ha hb
  · obtain ⟨j, hj, h⟩ := hw.gap
    exact ⟨j, by simpa using hj, by rw [hoc]; exact h⟩
theorem addT_length (H : ByteArray → Nat) (t : Tab) (k : ByteArray) (v : Int) : (addT H t k v).length = if 3 * t.length ≤ 4 * cn t then 2 * t.length else t.length := by
  unfold addT
  rw [layT_length]
  split
  · rw [growT_length]
  · rfl
theorem good_add {b : Buf} (h : GoodB b) (hk : b.kd = 2) (hc : cn b.t < 100) {k : ByteArray} (v : Int) (hks : k.size ≤ 24) (hn : ∀ v, ¬ Has b.t k v) : GoodB { b with t := addT (HH b.seed) b.t k v } := by
  obtain ⟨h0, h1, h2, hw, hs, h4, h264, hcn⟩ := h.dict hk
  obtain ⟨g1, g2, g3, g4⟩ := add_good (HH b.seed) hw h4 v hn
  refine Or.inr ⟨hk, h0, h1, h2, g1, short_of (fun k' v' hh => ?_), g3, ?_, by simp only; omega⟩
  · rcases (g4 k' v').1 hh with ⟨e, _⟩ | hh
    · rw [e]; omega
    · exact short_has hs hh
  · simp only
    rw [addT_length]
    split <;> omega
theorem good_setv {b : Buf} (h : GoodB b) (hk : b.kd = 2) {i : Nat} (hi : i < b.t.length) {k : ByteArray} {v0 : Int} (hp : pl b.t i = some (k, v0)) (v : Int) : GoodB { b with t := setT b.t i k v } := by
  obtain ⟨h0, h1, h2, hw, hs, h4, h264, hcn⟩ := h.dict hk
  have hc := cn_set hi (some (k, v))
  rw [show occ b.t i = true by unfold occ; rw [hp]; rfl] at hc
  simp at hc
  refine Or.inr ⟨hk, h0, h1, h2, wf_setv hw hi hp v, ?_, by simp [setT]; exact h4, by simp [setT]; exact h264, by simp only [setT]; omega⟩
  refine short_of (fun k' v' hh => ?_)
  obtain ⟨j, hj, hpj⟩ := hh
  simp only [setT, List.length_set] at hj
  simp only [setT] at hpj
  rw [pl_set hi hj] at hpj
  by_cases e : j = i
  · rw [if_pos e] at hpj; cases hpj; exact short_has hs ⟨i, hi, hp⟩
  · rw [if_neg e] at hpj; exact short_has hs ⟨j, hj, hpj⟩
theorem good_rem {b : Buf} (h : GoodB b) (hk : b.kd = 2) {i : Nat} (hi : i < b.t.length) {k : ByteArray} {v0 : Int} (hp : pl b.t i = some (k, v0)) : GoodB { b with t := removeT (HH b.seed) b.t i } := by
  obtain ⟨h0, h1, h2, hw, hs, h4, h264, hcn⟩ := h.dict hk
  have hoc : occ b.t i = true := by unfold occ; rw [hp]; rfl
  have hc := cn_remove (HH b.seed) hi hoc
  refine Or.inr ⟨hk, h0, h1, h2, remove_wf (HH b.seed) hw hi hoc, short_of (fun k' v' hh => short_has hs ((remove_has (HH b.seed) hw hi hp k' v').1 hh).1), ?_, ?_, ?_⟩
  · simp only; rw [removeT_length]; exact h4
  · simp only; rw [removeT_length]; exact h264
  · simp only; omega
theorem good_arr {l : List ByteArray} (h : l.length ≤ 100) : GoodB ⟨1, l, 0, []⟩ := Or.inl ⟨rfl, rfl, rfl, h⟩
theorem good_list {b : Buf} (h : GoodB b) (hk : b.kd = 1) {l : List ByteArray} (hl : l.length ≤ 100) : GoodB { b with l := l } := by
  rcases h with ⟨h1, h2, h3, h4⟩ | ⟨h1, _⟩
  · exact Or.inl ⟨h1, h2, h3, hl⟩
  · rw [hk] at h1; exact absurd h1 (by decide)
theorem good_new {n : Int} (h0 : 0 ≤ n) (h1 : n ≤ 2147483647) : GoodB ⟨2, [], n, List.replicate 4 none⟩ :=
  Or.inr ⟨rfl, h0, h1, rfl, wf_none _ (by omega), short_of (fun k v hh => absurd hh (has_none 4 k v)), by simp, by simp, by rw [cn_none]; omega⟩
theorem ref_last {A : Sto} {o : OpV} (h : refA A o = 0) : ¬ (o.kind = 8 ∧ (o.n < 0 ∨ 2147483647 < o.n)) ∧ ¬ (o.kind = 3 ∧ 100 ≤ (A.buf o.fr).l.length) ∧ ¬ (o.kind = 9 ∧ 100 ≤ cn (A.buf o.fr).t ∧ fnd (A.buf o.fr).seed (A.buf o.fr).t o.key < 0) ∧ ¬ (o.kind = 10 ∧ fnd (A.buf o.fr).seed (A.buf o.fr).t o.key < 0) := by
  have hf := ref_form h
  unfold refA at h
  rw [hf] at h
  simp only [Bool.true_eq_false, if_false] at h
  split at h; cases h
  split at h; cases h
  rename_i h2
  split at h; cases h
  split at h; cases h
  split at h; cases h
  rename_i h5
  split at h; cases h
  rename_i h6
  split at h; cases h
  rename_i h7
  exact ⟨fun hc => h2 (Or.inr hc), h6, h7, h5⟩
theorem fnd_neg {seed : Int} {t : Tab} {k : ByteArray} (h : findT (HH seed) t k = none) : fnd seed t k < 0 := by unfold fnd; rw [h]; decide
theorem good_do {A : Sto} (hA : Good A) (o : OpV) : Good (doA A o) := by
  unfold doA
  split
  · rename_i hr
    have hf := ref_form hr
    have hfr := form_fr hf
    have hl := ref_last hr
    have hkd : (useG o.kind).kind ≠ 0 → GoodB (A.buf o.fr) := fun hk => hA.buf hfr.1 hfr.2 (by rw [ref_kd hr hk]; exact hk)
    unfold Sto.does
    rcases formS_kind hf with hk | hk | hk | hk | hk | hk | hk | hk | hk | hk | hk
    · rw [if_pos hk]; exact good_fresh hA _ (good_arr (by simp)) _
    · rw [if_neg (by omega), if_pos hk]
      refine ⟨by simp [hA.eight], fun i k h => ?_, hA.bufs, hA.off⟩
      simp only [List.getElem?_set] at h
      split at h
      · split at h
        · simp only [Option.some.injEq] at h
          refine hA.there o.fr.toNat k ?_
          rw [id_names hA hfr.1 hfr.2, h]
        · cases h
      · exact hA.there i k h
    · rw [if_neg (by omega), if_neg (by omega), if_pos hk]
      have hg := hkd (by rw [hk]; decide)
      exact good_change hA hg (good_list hg (by rw [ref_kd hr (by rw [hk]; decide), hk]; rfl) (by have := hl.2.1; simp; omega))
    · rw [if_neg (by omega), if_neg (by omega), if_neg (by omega), if_pos hk]
      have hg := hkd (by rw [hk]; decide)
      split
      · exact hA
      · exact good_change hA hg (good_list hg (by rw [ref_kd hr (by rw [hk]; decide), hk]; rfl) (by rw [List.length_set]; exact hg.len.1))
    · rw [if_neg (by omega), if_neg (by omega), if_neg (by omega), if_neg (by omega), if_pos hk]
      have hg := hkd (by rw [hk]; decide)
      exact good_change hA hg (good_list hg (by rw [ref_kd hr (by rw [hk]; decide), hk]; rfl) (by have := hg.len.1; rw [List.length_eraseIdx]; split <;> omega))
    · rw [if_neg (by omega), if_neg (by omega), if_neg (by omega), if_neg (by omega), if_neg (by omega), if_pos hk]
      have hg := hkd (by rw [hk]; decide)
      exact good_fresh hA _ (good_arr (by have := hg.len.1; simp; omega)) _
    · rw [if_neg (by omega), if_neg (by omega), if_neg (by omega), if_neg (by omega), if_neg (by omega), if_neg (by omega), if_pos hk]
      have hg := hkd (by rw [hk]; decide)
      split
      · exact hA
      · exact good_change hA hg (good_list hg (by rw [ref_kd hr (by rw [hk]; decide), hk]; rfl) (by rw [sortL_length]; exact hg.len.1))
    · rw [if_neg (by omega), if_neg (by omega), if_neg (by omega), if_neg (by omega), if_neg (by omega), if_neg (by omega), if_neg (by omega), if_pos hk]
      have := hl.1
      exact good_fresh hA _ (good_new (by omega) (by omega)) _
    · rw [if_neg (by omega), if_neg (by omega), if_neg (by omega), if_neg (by omega), if_neg (by omega), if_neg (by omega), if_neg (by omega), if_neg (by omega), if_pos hk]
      have hg := hkd (by rw [hk]; decide)
      have h2 : (A.buf o.fr).kd = 2 := by rw [ref_kd hr (by rw [hk]; decide), hk]; rfl
      have hd := hg.dict h2
      split
      · rename_i hfi
        refine good_change hA hg (good_add hg h2 ?_ _ (ref_key hr (by rw [hk]; decide)) (fun v ⟨j, hj, hjp⟩ => ?_))
        · have := fnd_neg hfi; have := hl.2.2.1; omega
        · have := find_some (HH (A.buf o.fr).seed) hd.2.2.2.1 hj hjp; rw [hfi] at this; cases this
      · rename_i i hfi
        obtain ⟨hi, v0, hp⟩ := find_of (HH (A.buf o.fr).seed) hd.2.2.2.1.gap hfi
        split
        · exact hA
        · exact good_change hA hg (good_setv hg h2 hi hp _)
    · rw [if_neg (by omega), if_neg (by omega), if_neg (by omega), if_neg (by omega), if_neg (by omega), if_neg (by omega), if_neg (by omega), if_neg (by omega), if_neg (by omega), if_pos hk]
      have hg := hkd (by rw [hk]; decide)
      have h2 : (A.buf o.fr).kd = 2 := by rw [ref_kd hr (by rw [hk]; decide), hk]; rfl
      have hd := hg.dict h2
      split
      · exact hA
      · rename_i i hfi
        obtain ⟨hi, v0, hp⟩ := find_of (HH (A.buf o.fr).seed) hd.2.2.2.1.gap hfi
        exact good_change hA hg (good_rem hg h2 hi hp)
    · rw [if_neg (by omega), if_neg (by omega), if_neg (by omega), if_neg (by omega), if_neg (by omega), if_neg (by omega), if_neg (by omega), if_neg (by omega), if_neg (by omega), if_neg (by omega)]
      have hg := hkd (by rw [hk]; decide)
      have h2 : (A.buf o.fr).kd = 2 := by rw [ref_kd hr (by rw [hk]; decide), hk]; rfl
      have hd := hg.dict h2
      refine good_fresh hA _ (good_arr ?_) _
      rw [List.length_map, show pairsT (A.buf o.fr).t = ents (A.buf o.fr).t from rfl, ents_length]
      exact hd.2.2.2.2.2.2.2
  · exact hA
theorem put_counts (A : Sto) (n : Int) (b : Buf) : (A.put n b).bufs.length = A.bufs.length ∧ (A.put n b).shared = A.shared := by
  unfold Sto.put
  split
  · exact ⟨rfl, rfl⟩
  · exact ⟨by simp, rfl⟩
theorem change_counts (A : Sto) (n : Int) (b : Buf) : (A.change n b).bufs.length = (if A.others n.toNat then A.bufs.length + 1 else A.bufs.length) ∧ (A.change n b).shared = (if A.others n.toNat then A.shared + 1 else A.shared) := by
  unfold Sto.change Sto.own
  by_cases h : A.others n.toNat
  · rw [if_pos h, if_pos h, if_pos h]
    obtain ⟨h1, h2⟩ := put_counts { A.fresh n (A.buf n) with shared := A.shared + 1 } n b
    exact ⟨h1.trans (by simp [Sto.fresh]), h2⟩
  · rw [if_neg h, if_neg h, if_neg h]
    exact put_counts A n b
theorem does_cases' {Φ : Sto → Prop} (A : Sto) (o : OpV) (h1 : ∀ n b, Φ (A.fresh n b)) (h2 : o.kind = 2 → Φ { A with names := A.names.set o.to.toNat (A.id o.fr) }) (h3 : ∀ b, Φ (A.change o.fr b)) (h4 : Φ A) : Φ (A.does o) := by
  unfold Sto.does
  by_cases k1 : o.kind = 1
  · rw [if_pos k1]; exact h1 _ _
  rw [if_neg k1]
  by_cases k2 : o.kind = 2
  · rw [if_pos k2]; exact h2 k2
  rw [if_neg k2]
  by_cases k3 : o.kind = 3
  · rw [if_pos k3]; exact h3 _
  rw [if_neg k3]
  by_cases k4 : o.kind = 4
  · rw [if_pos k4]
    split
    · exact h4
    · exact h3 _
  rw [if_neg k4]
  by_cases k5 : o.kind = 5
  · rw [if_pos k5]; exact h3 _
  rw [if_neg k5]
  by_cases k6 : o.kind = 6
  · rw [if_pos k6]; exact h1 _ _
  rw [if_neg k6]
  by_cases k7 : o.kind = 7
  · rw [if_pos k7]
    split
    · exact h4
    · exact h3 _
  rw [if_neg k7]
  by_cases k8 : o.kind = 8
  · rw [if_pos k8]; exact h1 _ _
  rw [if_neg k8]
  by_cases k9 : o.kind = 9
  · rw [if_pos k9]
    split
    · exact h3 _
    · split
      · exact h4
      · exact h3 _
  rw [if_neg k9]
  by_cases k10 : o.kind = 10
  · rw [if_pos k10]
    split
    · exact h4
    · exact h3 _
  rw [if_neg k10]
  exact h1 _ _
theorem does_cases {Φ : Sto → Prop} (A : Sto) (o : OpV) (h1 : ∀ n b, Φ (A.fresh n b)) (h2 : Φ { A with names := A.names.set o.to.toNat (A.id o.fr) }) (h3 : ∀ b, Φ (A.change o.fr b)) (h4 : Φ A) : Φ (A.does o) := does_cases' A o h1 (fun _ => h2) h3 h4
theorem do_counts (A : Sto) (o : OpV) : ((doA A o).bufs.length = A.bufs.length ∧ (doA A o).shared = A.shared) ∨ (refA A o = 0 ∧ (doA A o).bufs.length = A.bufs.length + 1 ∧ ((doA A o).shared = A.shared ∨ (doA A o).shared = A.shared + 1 ∧ A.others o.fr.toNat)) := by
  have hc : ∀ b, ((A.change o.fr b).bufs.length = A.bufs.length ∧ (A.change o.fr b).shared = A.shared) ∨ ((A.change o.fr b).bufs.length = A.bufs.length + 1 ∧ ((A.change o.fr b).shared = A.shared ∨ (A.change o.fr b).shared = A.shared + 1 ∧ A.others o.fr.toNat)) := fun b => by
    obtain ⟨h1, h2⟩ := change_counts A o.fr b
    by_cases h : A.others o.fr.toNat
    · rw [if_pos h] at h1 h2; exact Or.inr ⟨h1, Or.inr ⟨h2, h⟩⟩
    · rw [if_neg h] at h1 h2; exact Or.inl ⟨h1, h2⟩
  have hfr : ∀ n b, (A.fresh n b).bufs.length = A.bufs.length + 1 ∧ (A.fresh n b).shared = A.shared := fun n b => ⟨List.length_append, rfl⟩
  unfold doA
  by_cases hr : refA A o = 0
  · rw [if_pos hr]
    refine does_cases (Φ := fun X => (X.bufs.length = A.bufs.length ∧ X.shared = A.shared) ∨ (refA A o = 0 ∧ X.bufs.length = A.bufs.length + 1 ∧ (X.shared = A.shared ∨ X.shared = A.shared + 1 ∧ A.others o.fr.toNat))) A o ?_ ?_ ?_ ?_
    · exact fun n b => Or.inr ⟨hr, (hfr n b).1, Or.inl (hfr n b).2⟩
    · exact Or.inl ⟨rfl, rfl⟩
    · exact fun b => (hc b).imp id (fun h => ⟨hr, h⟩)
    · exact Or.inl ⟨rfl, rfl⟩
  · rw [if_neg hr]; exact Or.inl ⟨rfl, rfl⟩
/-- no two names refer to one buffer -/
def Apart (A : Sto) : Prop := ∀ (i j k : Nat), A.names[i]? = some (some k) → A.names[j]? = some (some k) → i = j
theorem apart_fresh {A : Sto} (hA : Good A) (h : Apart A) (n : Int) (b : Buf) : Apart (A.fresh n b) := by
  intro i j k h1 h2
  simp only [Sto.fresh, List.getElem?_set] at h1 h2
  split at h1
  · split at h1
    · simp only [Option.some.injEq] at h1
      subst h1
      split at h2
      · omega
      · have := hA.there j _ h2; omega
    · cases h1
  · split at h2
    · split at h2
      · simp only [Option.some.injEq] at h2
        subst h2
        have := hA.there i _ h1; omega
      · cases h2
    · exact h i j k h1 h2
theorem apart_others {A : Sto} (hA : Good A) (h : Apart A) {n : Int} {k : Nat} (h0 : 0 ≤ n) (h8 : n < 8) (hk : A.id n = some k) : ¬ A.others n.toNat := by
  rintro ⟨j, _, hj, hne⟩
  have hn := id_names hA h0 h8
  rw [hk] at hn
  exact hj (h j n.toNat k (by rw [hne, hn]) hn)
theorem apart_change {A : Sto} (hA : Good A) (h : Apart A) {n : Int} {k : Nat} (h0 : 0 ≤ n) (h8 : n < 8) (hk : A.id n = some k) (b : Buf) : Apart (A.change n b) := by
  unfold Sto.change Sto.own
  rw [if_neg (apart_others hA h h0 h8 hk)]
  unfold Sto.put
  rw [hk]
  exact h
theorem apart_do {A : Sto} (hA : Good A) (h : Apart A) (o : OpV) (hn : refA A o = 0 → o.kind ≠ 2) : Apart (doA A o) ∧ (doA A o).shared = A.shared := by
  unfold doA
  by_cases hr : refA A o = 0
  · rw [if_pos hr]
    have hf := ref_form hr
    have hfr := form_fr hf
    have hid : (useG o.kind).kind ≠ 0 → ∃ k, A.id o.fr = some k := fun hk => id_of_kd (by rw [ref_kd hr hk]; exact hk)
    have hc : (useG o.kind).kind ≠ 0 → ∀ b, Apart (A.change o.fr b) ∧ (A.change o.fr b).shared = A.shared := fun hk b => by
      obtain ⟨k, hq⟩ := hid hk
      exact ⟨apart_change hA h hfr.1 hfr.2 hq b, by rw [(change_counts A o.fr b).2, if_neg (apart_others hA h hfr.1 hfr.2 hq)]⟩
    have hfs : ∀ n b, Apart (A.fresh n b) ∧ (A.fresh n b).shared = A.shared := fun n b => ⟨apart_fresh hA h n b, rfl⟩
    have hno := hn hr
    by_cases h2 : (useG o.kind).kind ≠ 0
    · by_cases hk2 : o.kind = 2
      · exact absurd hk2 hno
      · refine does_cases' (Φ := fun X => Apart X ∧ X.shared = A.shared) A o hfs (fun e => absurd e hk2) (hc h2) ⟨h, rfl⟩
    · rcases formS_kind hf with hk | hk | hk | hk | hk | hk | hk | hk | hk | hk | hk
      · unfold Sto.does; rw [if_pos hk]; exact hfs _ _
      · exact absurd hk hno
      · rw [hk] at h2; exact absurd (by decide) h2
      · rw [hk] at h2; exact absurd (by decide) h2
      · rw [hk] at h2; exact absurd (by decide) h2
      · rw [hk] at h2; exact absurd (by decide) h2
      · rw [hk] at h2; exact absurd (by decide) h2
      · unfold Sto.does; rw [if_neg (by omega), if_neg (by omega), if_neg (by omega), if_neg (by omega), if_neg (by omega), if_neg (by omega), if_neg (by omega), if_pos hk]; exact hfs _ _
      · rw [hk] at h2; exact absurd (by decide) h2
      · rw [hk] at h2; exact absurd (by decide) h2
      · rw [hk] at h2; exact absurd (by decide) h2
  · rw [if_neg hr]; exact ⟨h, rfl⟩
end Go.Proofs.Ytbhdgeoljlhmcaa
