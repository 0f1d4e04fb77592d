/- What a name is, and a buffer of its own, over the store as data. -/
import Derived.Test.YtbhdgeoljlhmcaaS15
import Derived.Outline
namespace Go.Proofs.Ytbhdgeoljlhmcaa
open Go.RowKit Go.Proofs.Ytbhdgeoljlhmcaa.Nm Go.Proofs.Ytbhdgeoljlhmcaa.St
theorem kind_at (s : Nat) (A : Sto) (rs : List Row) (hA : Good A) (n : Int) (h0 : 0 ≤ n) (h8 : n < 8) (w : World) (h : StoreAt w s A rs) :
    Calls Try.prog 76 #[.pointer (some ⟨s, 0, none⟩), .int .i64 n] w fun e w' => e = .returned (.int .i64 (A.buf n).kd) ∧ Below w.heap.size w w' := by
  have hn := nsOf_get (rs := rs) (id_names hA h0 h8)
  have hi : (n.toNat : Int) = n := by omega
  rw [← hi]
  refine kindOf_any s (nsOf A rs) _ _ (by rw [nsOf_length]; exact hA.eight) n.toNat _ hn _ w h.main ?_ ?_
  · intro g hg
    cases hq : A.id n with
    | none => rw [hq] at hg; cases hg
    | some k =>
      rw [hi]
      obtain ⟨r, hr, _, hB, _, hns⟩ := h.row hA hq
      rw [hq] at hg
      simp only [Option.map_some, gAt_eq hr, Option.some.injEq] at hg
      subst hg
      exact (bc_cell hB.1).1
  · intro hg
    cases hq : A.id n with
    | none => rw [hi, buf_none hq]; rfl
    | some k => rw [hq] at hg; cases hg
theorem own_str {w : World} {b n : Nat} {v : Value} {l : List ByteArray} (h : w.ownsRow b 9 1 v n (strs l)) (hl : l.length = n) : ∃ A cap, v = .slice A n cap ∧ StrAt w A n cap l := by
  rcases h.2 with ⟨rfl, h0⟩ | ⟨g, cap, cur, rfl, hB, hg, h1, h2, h3, h4⟩
  · subst h0; exact ⟨none, 0, rfl, hl, Or.inl ⟨rfl, rfl, rfl⟩⟩
  · refine ⟨_, cap, rfl, hl, Or.inr ⟨_, rfl, fun j u hj => ?_⟩⟩
    have hj2 : j < n := by have := (List.getElem?_eq_some_iff.1 hj).1; rw [strs_length] at this; omega
    rw [show ((⟨g, 0, none⟩ : Addr).add j) = ⟨g, j, none⟩ by rw [Addr.add_mid]; simp, cell_of_row _ _ _ _ _ _ hg, ← Array.getElem?_toList]
    rw [← h4, List.getElem?_take_of_lt (by omega)] at hj
    exact hj
theorem own_vt {w : World} {b : Nat} {v : Value} {t : Tab} (h : w.ownsRow b 95 3 v t.length (tcells t)) (hn : t = [] → v = .slice none 0 0) : ∃ A cap, v = .slice A t.length cap ∧ VT b w A cap t := by
  by_cases e : t = []
  · subst e; exact ⟨none, 0, hn rfl, Or.inl ⟨rfl, rfl, rfl⟩⟩
  · have hl : 1 ≤ t.length := by cases t with
      | nil => exact absurd rfl e
      | cons x t => simp
    obtain ⟨p, cap, h1, h2, h3⟩ := own_pl h hl
    exact ⟨_, cap, h1, Or.inr ⟨p, rfl, h2, hl, h3⟩⟩
theorem buf_of {A : Sto} {n : Int} {k : Nat} {b : Buf} (h1 : A.id n = some k) (h2 : A.bufs[k]? = some b) : A.buf n = b := by
  unfold Sto.buf; rw [h1]; show A.bufs.getD k noBuf = b; rw [List.getD_eq_getElem?_getD, h2]; rfl
theorem own_change {A : Sto} {n : Int} (hA : Good A) (h0 : 0 ≤ n) (h8 : n < 8) {k : Nat} (hk : A.id n = some k) : ∃ k', (A.own n).id n = some k' ∧ (A.own n).bufs[k']? = some (A.buf n) ∧ (A.own n).buf n = A.buf n := by
  have hn : A.names[n.toNat]? = some (some k) := by rw [id_names hA h0 h8, hk]
  have hl := hA.there _ _ hn
  have hb : A.bufs[k]? = some (A.buf n) := by unfold Sto.buf; rw [hk]; show A.bufs[k]? = some (A.bufs.getD k noBuf); rw [List.getD_eq_getElem?_getD, List.getElem?_eq_getElem hl]; rfl
  unfold Sto.own
  by_cases ho : A.others n.toNat
  · rw [if_pos ho]
    have e1 : ({ A.fresh n (A.buf n) with shared := A.shared + 1 } : Sto).id n = some A.bufs.length := by
      have := hA.eight
      unfold Sto.id Sto.fresh
      simp only
      rw [List.getElem?_set_self (by omega)]; rfl
    have e2 : ({ A.fresh n (A.buf n) with shared := A.shared + 1 } : Sto).bufs[A.bufs.length]? = some (A.buf n) := by simp [Sto.fresh]
    exact ⟨_, e1, e2, buf_of e1 e2⟩
  · rw [if_neg ho]; exact ⟨k, hk, hb, rfl⟩
theorem GoodB.no : Good ⟨List.replicate 8 none, [], 0⟩ := ⟨by simp, fun i k h => by have := List.mem_of_getElem? h; simp at this, fun k b h => by simp at h⟩
theorem good_fresh {A : Sto} (hA : Good A) (n : Int) {b : Buf} (hb : GoodB b) (sh : Int) : Good { A.fresh n b with shared := sh } := by
  refine ⟨by simp [Sto.fresh, hA.eight], fun i k h => ?_, fun k x h => ?_⟩
  · simp only [Sto.fresh, List.getElem?_set, List.length_append, List.length_singleton] at h ⊢
    split at h
    · split at h
      · cases h; omega
      · cases h
    · have := hA.there i k h; omega
  · simp only [Sto.fresh] at h
    by_cases e : k < A.bufs.length
    · rw [List.getElem?_append_left e] at h; exact hA.bufs k x h
    · rw [List.getElem?_append_right (by omega)] at h
      have := List.mem_of_getElem? h
      simp at this; subst this; exact hb
theorem good_own {A : Sto} (hA : Good A) {n : Int} (hb : GoodB (A.buf n)) : Good (A.own n) := by
  unfold Sto.own
  split
  · exact good_fresh hA n hb _
  · exact hA
theorem good_put {A : Sto} (hA : Good A) {n : Int} {b : Buf} (hb : GoodB b) : Good (A.put n b) := by
  unfold Sto.put
  split
  · exact hA
  · refine ⟨hA.eight, fun i k h => ?_, fun k x h => ?_⟩
    · have := hA.there i k h; simpa using this
    · rename_i j _
      simp only [List.getElem?_set] at h
      split at h
      · split at h
        · cases h; exact hb
        · cases h
      · exact hA.bufs k x h
set_option maxRecDepth 100000 in
/-- own: the name's buffer is its own -/
theorem own_at (s : Nat) (A : Sto) (rs : List Row) (hA : Good A) (n : Int) (h0 : 0 ≤ n) (h8 : n < 8) (k : Nat) (hk : A.id n = some k) (hm : A.bufs.length ≤ 100000) (hs0 : 0 ≤ A.shared) (hs1 : A.shared ≤ 100000) (w : World) (h : StoreAt w s A rs) :
    Calls Try.prog 52 #[.pointer (some ⟨s, 0, none⟩), .int .i64 n] w fun e w' => ∃ rs' k' r', e = .returned (.pointer (some ⟨r'.g, 0, none⟩)) ∧ StoreAt w' s (A.own n) rs' ∧ (A.own n).id n = some k' ∧ rs'[k']? = some r' ∧ (A.own n).bufs[k']? = some (A.buf n) ∧ Ran s rs w rs' w' := by
  obtain ⟨r, hr, hb, hB, hG, hns⟩ := h.row hA hk
  have hi : (n.toNat : Int) = n := by omega
  obtain ⟨hb0, hl, ht, hnil⟩ := hB
  obtain ⟨A1, c1, e1, hl1⟩ := own_str hl rfl
  obtain ⟨A2, c2, e2, ht1⟩ := own_vt ht hnil
  have hlen := hG.len
  rw [e1, e2] at hb0
  have hn8 : (nsOf A rs).length = 8 := by rw [nsOf_length]; exact hA.eight
  have hall : ∀ (j q : Nat), (nsOf A rs)[j]? = some (some q) → ∃ k2 r2, A.names[j]? = some (some k2) ∧ rs[k2]? = some r2 ∧ r2.g = q ∧ ∃ cs : Array Value, w.heap[q]? = some (Obj.cells cs 87 (0, 0)) := fun j q hq => by
    unfold nsOf at hq
    rw [List.getElem?_map] at hq
    cases hj : A.names[j]? with
    | none => rw [hj] at hq; cases hq
    | some o =>
      cases o with
      | none => rw [hj] at hq; cases hq
      | some k2 =>
        rw [hj] at hq
        have hk2 := hA.there _ _ hj
        obtain ⟨r2, hr2⟩ : ∃ r, rs[k2]? = some r := ⟨_, List.getElem?_eq_getElem (by rw [h.len]; exact hk2)⟩
        simp only [Option.map_some, gAt_eq hr2, Option.some.injEq] at hq
        exact ⟨k2, r2, rfl, hr2, hq, _, by rw [← hq]; exact (h.rows k2 r2 _ hr2 (List.getElem?_eq_getElem hk2)).1⟩
  have hoth : A.others n.toNat ↔ ∃ j, j < 8 ∧ j ≠ n.toNat ∧ (nsOf A rs)[j]? = some (some r.g) := by
    have hnn : A.names[n.toNat]? = some (some k) := by rw [id_names hA h0 h8, hk]
    constructor
    · rintro ⟨j, hj, hj2, hj3⟩
      exact ⟨j, hj, hj2, by rw [nsOf_get (hj3.trans hnn)]; simp [gAt_eq hr]⟩
    · rintro ⟨j, hj, hj2, hj3⟩
      obtain ⟨k2, r2, h1, h2, h3, _⟩ := hall j _ hj3
      have := h.gs k2 k r2 r h2 hr h3
      subst this
      exact ⟨j, hj, hj2, h1.trans hnn.symm⟩
  have HC := own_any s (nsOf A rs) (A.bufs.length : Int) A.shared hn8 n.toNat (by omega) r.g hns (by omega) (by omega) hs0 hs1 _ _ _ A1 _ c1 _ A2 c2 _ (by omega) (by omega) w h.main
    (fun j q hq => by obtain ⟨_, _, _, _, _, hc⟩ := hall j q hq; exact hc) hb0 hl1 ht1
  rw [hi] at HC
  refine HC.mono ?_
  rintro e w' (⟨hno, rfl, hK⟩ | ⟨hyes, g', lv, pv, hge, rfl, hm', hg', ho1, ⟨ho2, hnil2⟩, hK⟩)
  · have hnot : ¬ A.others n.toNat := fun hc => by obtain ⟨j, h1, h2, h3⟩ := hoth.1 hc; exact hno j h1 h2 h3
    have hown : A.own n = A := by unfold Sto.own; rw [if_neg hnot]
    rw [hown]
    exact ⟨rs, k, r, rfl, h.same (fun q hq _ => hK.block q hq (by simp)), hk, hr, hb, Ran.of hK (by simp) (fun q hq => Or.inl hq)⟩
  · have hot := hoth.2 hyes
    have hown : A.own n = { A.fresh n (A.buf n) with shared := A.shared + 1 } := by unfold Sto.own; rw [if_pos hot]
    rw [hown]
    have f1 : ∀ q, lv.ownBlock = some q → w.heap.size ≤ q := fun q hq => (own_block ho1 hq).1
    have f2 : ∀ q, pv.ownBlock = some q → w.heap.size ≤ q := fun q hq => (own_block ho2 hq).1
    refine ⟨rs ++ [⟨g', lv, pv⟩], A.bufs.length, ⟨g', lv, pv⟩, rfl, ?_, ?_, by rw [← h.len]; simp, by simp [Sto.fresh], ?_⟩
    · exact h.fresh hK ⟨hg', own_weak ho1 (Nat.zero_le _), own_weak ho2 (Nat.zero_le _), hnil2⟩ hge f1 f2 hA hm'
    · have := hA.eight
      unfold Sto.id Sto.fresh
      simp only
      rw [List.getElem?_set_self (by omega)]; rfl
    · refine Ran.of hK (fun q hq => Or.inl (Or.inl (by simpa using hq))) (fun q hq => ?_)
      rcases foot_push hq with hq | rfl | hq | hq
      · exact Or.inl hq
      · exact Or.inr hge
      · exact Or.inr (f1 q hq)
      · exact Or.inr (f2 q hq)
end Go.Proofs.Ytbhdgeoljlhmcaa
