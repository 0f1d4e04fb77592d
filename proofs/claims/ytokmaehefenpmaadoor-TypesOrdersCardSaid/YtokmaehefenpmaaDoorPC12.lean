/- Unify: plain: the greatest variable; the steps of its walk. Equations in another order, plainly. Lists of equations of the call's own: what an append leaves. Equations cut out of a list; a list of none and of one. -/
import Derived.Test.YtokmaehefenpmaaDoorPC7
import Derived.Test.YtokmaehefenpmaaDoorPC11
import Derived.Laws.OwnMore
namespace Go.Proofs.YtokmaehefenpmaaDoor
open Go.RowKit Go.ChangeMaps Go.Proofs.YtokmaehefenpmaaDoor.Nm
def OpenE (es : Eqs) : Prop := ∀ p, p ∈ es → validB true p.1 = true ∧ validB true p.2 = true
def most1 (a : Int) (t : Ty) : Int := (distinctI (varsOf t)).foldl max a
def mostE (es : Eqs) : Int := es.foldl (fun a p => most1 (most1 a p.1) p.2) (-1)
theorem foldl_max : ∀ (l : List Int) (a : Int), a ≤ l.foldl max a ∧ (∀ x, x ∈ l → x ≤ l.foldl max a) ∧ ∀ b, a ≤ b → (∀ x, x ∈ l → x ≤ b) → l.foldl max a ≤ b
  | [], a => ⟨Int.le_refl _, fun x h => by simp at h, fun b h _ => h⟩
  | y :: l, a => by
    obtain ⟨h1, h2, h3⟩ := foldl_max l (max a y)
    simp only [List.foldl_cons]
    refine ⟨by omega, fun x hx => ?_, fun b h h' => h3 b (by have := h' y (by simp); omega) fun x hx => h' x (by simp [hx])⟩
    rcases List.mem_cons.1 hx with rfl | hx
    · omega
    · exact h2 x hx
theorem vars_all (Q : Int → Prop) : ∀ (t : Ty) (ns : List Int), (t.all fun u => decide (u.kind = 12 → u.num < 0 ∨ 40 ≤ u.num) == false || decide (u.kind ≠ 12)) = true → (∀ n : Int, 0 ≤ n → n < 40 → Q n) → (∀ x, x ∈ ns → Q x) → ∀ x, x ∈ (visit stepV t ns).2 → Q x := Ty.ind fun k s n l ih ns ha hQ hns => by
  have hl : ∀ (l : List Ty), (∀ t, t ∈ l → ∀ (ns : List Int), (t.all fun u => decide (u.kind = 12 → u.num < 0 ∨ 40 ≤ u.num) == false || decide (u.kind ≠ 12)) = true → (∀ n : Int, 0 ≤ n → n < 40 → Q n) → (∀ x, x ∈ ns → Q x) → ∀ x, x ∈ (visit stepV t ns).2 → Q x) → (∀ t, t ∈ l → (t.all fun u => decide (u.kind = 12 → u.num < 0 ∨ 40 ≤ u.num) == false || decide (u.kind ≠ 12)) = true) → ∀ ns : List Int, (∀ x, x ∈ ns → Q x) → ∀ x, x ∈ (visits stepV l ns).2 → Q x := by
    intro l
    induction l with
    | nil => intro _ _ ns h; simpa [visits] using h
    | cons t l ihl =>
      intro h ha ns hns
      simp only [visits]
      have h1 := (visit_lenV t ns).1
      have h2 := h t (by simp) ns (ha t (by simp)) hQ hns
      cases hv : visit stepV t ns with
      | mk b x =>
        rw [hv] at h1 h2
        cases h1
        exact ihl (fun t ht => h t (by simp [ht])) (fun t ht => ha t (by simp [ht])) x h2
  rw [Ty.all, Bool.and_eq_true, alls_iff] at ha
  have hs : stepV (.node k s n l) ns = (true, (stepV (.node k s n l) ns).2) := rfl
  simp only [visit]
  rw [hs]
  refine hl l ih ha.2 _ fun x hx => ?_
  have hx : x ∈ (if k = 12 then ns ++ [n] else ns) := hx
  have h0 : (decide (k = 12 → n < 0 ∨ 40 ≤ n) == false || decide (k ≠ 12)) = true := ha.1
  by_cases hk : k = 12
  · rw [if_pos hk] at hx
    rcases List.mem_append.1 hx with hx | hx
    · exact hns x hx
    · simp at hx; subst hx
      simp [hk] at h0
      exact hQ _ (by omega) (by omega)
  · rw [if_neg hk] at hx
    exact hns x hx
theorem all_weak {f g : Ty → Bool} (h : ∀ t, f t = true → g t = true) : ∀ t : Ty, t.all f = true → t.all g = true := Ty.ind fun k s n l ih ha => by
  rw [Ty.all, Bool.and_eq_true, alls_iff] at *
  exact ⟨h _ ha.1, fun u hu => ih u hu (ha.2 u hu)⟩
theorem open_vars {t : Ty} (h : validB true t = true) : ∀ x, x ∈ distinctI (varsOf t) → 0 ≤ x ∧ x < 40 := fun x hx => by
  rw [mem_distinctI] at hx
  unfold validB at h
  rw [Bool.and_eq_true] at h
  refine vars_all (fun x => 0 ≤ x ∧ x < 40) t [] (all_weak (fun t ht => ?_) t h.2) (fun n h1 h2 => ⟨h1, h2⟩) (fun x h => by simp at h) x hx
  cases t with | node k s n l => ?_
  simp only [Ty.kind, Ty.num]
  by_cases hk : k = 12
  · subst hk
    simp [nodeB, nodeK] at ht
    simp
    omega
  · simp [hk]
theorem open_fine {m : Nat} : ∀ t : Ty, t.all (nodeB true) = true → (∀ v, t.occ v = true → v < m) → FineV m t := Ty.ind fun k s n l ih ha ho => by
  rw [Ty.all, Bool.and_eq_true, alls_iff] at ha
  obtain ⟨h1, h2⟩ := ha
  rw [fine_node]
  by_cases hk : k = 12
  · subst hk
    simp [nodeB, nodeK] at h1
    obtain ⟨h3, h4, h5, h6⟩ := h1
    have hn : n.toNat < m := ho n.toNat (by simp [Ty.occ]; omega)
    subst h3
    refine ⟨?_, fun u hu => by simp at hu⟩
    simp only [fineB, Ty.kind, Ty.name, Ty.num, Ty.args]
    have hs : s = ⟨#[]⟩ := bytes_inj (by rw [h4, ByteArray.toList_eq])
    have h7 : n < (m : Int) := by omega
    subst hs
    simp [h5, h7]
  · refine ⟨?_, fun u hu => ih u hu (h2 u hu) fun v hv => ho v ?_⟩
    · have h0 : k ≠ 0 := fun e => by subst e; simp [nodeB, nodeK] at h1
      simp [fineB, Ty.kind, hk, h0]
    · simp only [Ty.occ, Bool.or_eq_true]
      exact .inr (occs_iff.2 ⟨u, hu, hv⟩)
theorem most1_ge (a : Int) (t : Ty) : a ≤ most1 a t := (foldl_max _ _).1
theorem most1_le {a : Int} {t : Ty} (h : validB true t = true) (ha : a ≤ 39) : most1 a t ≤ 39 := (foldl_max _ _).2.2 39 ha fun x hx => by have := open_vars h x hx; omega
theorem most1_var {a : Int} {t : Ty} {v : Nat} (h : t.occ v = true) : (v : Int) ≤ most1 a t := (foldl_max _ _).2.1 _ (by rw [← List.contains_iff_mem, vars_has]; exact h)
theorem most_run : ∀ (es : Eqs) (a : Int), OpenE es → a ≤ 39 → a ≤ es.foldl (fun a p => most1 (most1 a p.1) p.2) a ∧ es.foldl (fun a p => most1 (most1 a p.1) p.2) a ≤ 39 ∧ ∀ p, p ∈ es → ∀ v : Nat, p.1.occ v = true ∨ p.2.occ v = true → (v : Int) ≤ es.foldl (fun a p => most1 (most1 a p.1) p.2) a
  | [], a, _, ha => ⟨Int.le_refl _, ha, fun p h => by simp at h⟩
  | (t, u) :: es, a, ho, ha => by
    have h1 := ho (t, u) (by simp)
    have h2 := most1_le h1.1 ha
    have h3 := most1_le h1.2 h2
    obtain ⟨g1, g2, g3⟩ := most_run es (most1 (most1 a t) u) (fun p hp => ho p (by simp [hp])) h3
    simp only [List.foldl_cons]
    have h4 := most1_ge a t
    have h5 := most1_ge (most1 a t) u
    refine ⟨by omega, g2, fun p hp v hv => ?_⟩
    rcases List.mem_cons.1 hp with rfl | hp
    · rcases hv with hv | hv
      · have : (v : Int) ≤ most1 a t := most1_var hv; omega
      · have : (v : Int) ≤ most1 (most1 a t) u := most1_var hv; omega
    · exact g3 p hp v hv
/-- How many variables a solution has. -/
def mOf (es : Eqs) : Nat := (mostE es + 1).toNat
theorem mOf_eq {es : Eqs} (h : OpenE es) : mostE es + 1 = (mOf es : Int) ∧ mOf es ≤ 40 := by
  obtain ⟨h1, h2, -⟩ := most_run es (-1) h (by omega)
  have h1 : -1 ≤ mostE es := h1
  have h2 : mostE es ≤ 39 := h2
  unfold mOf
  omega
theorem fine_open {es : Eqs} (h : OpenE es) : FineE (mOf es) es := fun p hp => by
  obtain ⟨-, -, h3⟩ := most_run es (-1) h (by omega)
  have h4 := (mOf_eq h).1
  obtain ⟨g1, g2⟩ := h p hp
  unfold validB at g1 g2
  rw [Bool.and_eq_true] at g1 g2
  exact ⟨open_fine _ g1.2 fun v hv => by have := h3 p hp v (.inl hv); have h5 : (v : Int) ≤ mostE es := this; omega, open_fine _ g2.2 fun v hv => by have := h3 p hp v (.inr hv); have h5 : (v : Int) ≤ mostE es := this; omega⟩
theorem open_small {t : Ty} (h : validB true t = true) : t.nodes ≤ 40 := by
  unfold validB at h
  rw [Bool.and_eq_true] at h
  exact of_decide_eq_true h.1
theorem most_next {es : Eqs} {j : Nat} {t u : Ty} (h : es[j]? = some (t, u)) : mostE (es.take (j + 1)) = most1 (most1 (mostE (es.take j)) t) u := by
  unfold mostE
  rw [List.take_add_one, h, List.foldl_append]
  rfl
theorem open_next {es : Eqs} {j : Nat} {t u : Ty} (h : es[j]? = some (t, u)) (ho : OpenE (es.take j)) (ht : validB true t = true) (hu : validB true u = true) : OpenE (es.take (j + 1)) := fun p hp => by
  rw [List.take_add_one, h] at hp
  rcases List.mem_append.1 hp with hp | hp
  · exact ho p hp
  · simp at hp; subst hp; exact ⟨ht, hu⟩
theorem Open_all (t : Ty) (w : World) (D : Nat → Prop) (row : Array Value) (h : TyAt w D t row) :
    Calls Tryd.prog 59 #[.agg row] w fun e w' => e = .returned (.bool (validB true t)) ∧ Below w.heap.size w w' := by
  have := Open_any (nodeB true) (fun _ => True) (fun t _ => shaped_any true t) (fun _ _ _ _ _ _ _ => trivial) t trivial w D row h
  rw [openB_law] at this
  exact this
end Go.Proofs.YtokmaehefenpmaaDoor
namespace Go.Proofs.YtokmaehefenpmaaDoor
open Go.RowKit Go.ChangeMaps Go.Proofs.YtokmaehefenpmaaDoor.Nm
/-- The same equations, but for the order and the sides. -/
def SameE (es fs : Eqs) : Prop := (∀ p, p ∈ es → p ∈ fs ∨ (p.2, p.1) ∈ fs) ∧ ∀ p, p ∈ fs → p ∈ es ∨ (p.2, p.1) ∈ es
theorem SameE.refl (es : Eqs) : SameE es es := ⟨fun _ h => .inl h, fun _ h => .inl h⟩
theorem SameE.step {es os ls : Eqs} (h : SameE es (os ++ ls)) {k : Nat} {t u : Ty} (hk : ls[k]? = some (t, u)) {x : Ty × Ty} (hx : x = (t, u) ∨ x = (u, t)) : SameE es ((os ++ [x]) ++ (ls.take k ++ ls.drop (k + 1))) := by
  obtain ⟨hl, he⟩ := List.getElem?_eq_some_iff.1 hk
  have hm : ∀ p, p ∈ ls ↔ p ∈ ls.take k ∨ p = (t, u) ∨ p ∈ ls.drop (k + 1) := fun p => by
    have e : ls = ls.take k ++ (t, u) :: ls.drop (k + 1) := by
      conv => lhs; rw [← List.take_append_drop k ls, List.drop_eq_getElem_cons hl, he]
    conv => lhs; rw [e]
    simp
  constructor
  · intro p hp
    have key : ∀ p, p ∈ os ++ ls → p ∈ (os ++ [x]) ++ (ls.take k ++ ls.drop (k + 1)) ∨ (p.2, p.1) ∈ (os ++ [x]) ++ (ls.take k ++ ls.drop (k + 1)) := fun p hp => by
      rcases List.mem_append.1 hp with hp | hp
      · left; simp [hp]
      · rcases (hm p).1 hp with hp | rfl | hp
        · left; simp [hp]
        · rcases hx with rfl | rfl
          · left; simp
          · right; simp
        · left; simp [hp]
    rcases h.1 p hp with hp | hp
    · exact key p hp
    · rcases key _ hp with h | h
      · exact .inr h
      · exact .inl h
  · intro p hp
    have key : p ∈ os ++ ls ∨ (p.2, p.1) ∈ os ++ ls := by
      simp only [List.mem_append, List.mem_singleton] at hp
      rcases hp with (hp | rfl) | (hp | hp)
      · left; simp [hp]
      · rcases hx with rfl | rfl
        · left; exact List.mem_append.2 (.inr ((hm _).2 (.inr (.inl rfl))))
        · right; exact List.mem_append.2 (.inr ((hm _).2 (.inr (.inl rfl))))
      · left; exact List.mem_append.2 (.inr ((hm _).2 (.inl hp)))
      · left; exact List.mem_append.2 (.inr ((hm _).2 (.inr (.inr hp))))
    rcases key with hp | hp
    · exact h.2 p hp
    · rcases h.2 _ hp with h | h
      · exact .inr h
      · exact .inl h
theorem SameE.opn {es fs : Eqs} (h : SameE es fs) : OpenE es ↔ OpenE fs := by
  constructor
  · intro ho p hp
    rcases h.2 p hp with h | h
    · exact ho p h
    · exact ⟨(ho _ h).2, (ho _ h).1⟩
  · intro ho p hp
    rcases h.1 p hp with h | h
    · exact ho p h
    · exact ⟨(ho _ h).2, (ho _ h).1⟩
theorem most_least {b : Int} : ∀ (es : Eqs) (a : Int), OpenE es → a ≤ b → (∀ p, p ∈ es → ∀ v : Nat, p.1.occ v = true ∨ p.2.occ v = true → (v : Int) ≤ b) → es.foldl (fun a p => most1 (most1 a p.1) p.2) a ≤ b
  | [], a, _, ha, _ => ha
  | (t, u) :: es, a, ho, ha, hv => by
    have one : ∀ (x : Ty) (a : Int), validB true x = true → a ≤ b → (∀ v : Nat, x.occ v = true → (v : Int) ≤ b) → most1 a x ≤ b := fun x a hx ha hv => (foldl_max _ _).2.2 b ha fun z hz => by
      obtain ⟨h1, h2⟩ := open_vars hx z hz
      have e : z = ((z.toNat : Nat) : Int) := by omega
      rw [e]
      refine hv _ ?_
      rw [← vars_has, List.contains_iff_mem, ← e]
      exact hz
    have h0 := ho (t, u) (by simp)
    simp only [List.foldl_cons]
    exact most_least es _ (fun p hp => ho p (by simp [hp])) (one u _ h0.2 (one t a h0.1 ha fun v h => hv (t, u) (by simp) v (.inl h)) fun v h => hv (t, u) (by simp) v (.inr h)) fun p hp => hv p (by simp [hp])
theorem SameE.most {es fs : Eqs} (h : SameE es fs) (ho : OpenE es) : mostE fs ≤ mostE es := by
  obtain ⟨h1, h2, h3⟩ := most_run es (-1) ho (by omega)
  refine most_least fs (-1) (h.opn.1 ho) h1 fun p hp v hv => ?_
  rcases h.2 p hp with h | h
  · exact h3 p h v hv
  · exact h3 _ h v hv.symm
theorem SameE.symm {es fs : Eqs} (h : SameE es fs) : SameE fs es := ⟨h.2, h.1⟩
theorem SameE.mOf {es fs : Eqs} (h : SameE es fs) (ho : OpenE es) : mOf fs = mOf es := by
  have h1 := h.most ho
  have h2 := h.symm.most (h.opn.1 ho)
  unfold YtokmaehefenpmaaDoor.mOf
  rw [show mostE fs = mostE es by omega]
theorem orders_plain {es fs : Eqs} (h : SameE es fs) (ho : OpenE es) {k k' : Nat} {r r' : Except Int (List Ty)} (s1 : Steps k es (start (mOf es)) r) (s2 : Steps k' fs (start (mOf fs)) r') : (∃ s, r = .ok s ∧ r' = .ok s) ∨ ∃ e f, r = .error e ∧ r' = .error f := by
  have hf := fine_open (h.opn.1 ho)
  rw [h.mOf ho] at s2 hf
  exact order_law2 (fine_open ho) hf h.1 h.2 s1 s2
end Go.Proofs.YtokmaehefenpmaaDoor
namespace Go.Proofs.YtokmaehefenpmaaDoor
open Go.RowKit Go.ChangeMaps Go.Proofs.YtokmaehefenpmaaDoor.Nm
set_option linter.unusedSimpArgs false
/-- A row of pairs whose trees lie below B. -/
def SrcE (w : World) (B : Nat) (es : Eqs) (A : Option Addr) : Prop := ∀ i a b, es[i]? = some (a, b) → ∃ bl off Cs t fr rowa rowb, A = some ⟨bl, off, none⟩ ∧ w.heap[bl]? = some (.cells Cs t fr) ∧ Cs.extract (off + i * 8) (off + i * 8 + 4) = rowa ∧ Cs.extract (off + i * 8 + 4) (off + i * 8 + 8) = rowb ∧ TyAt w (fun b => b < B) a rowa ∧ TyAt w (fun b => b < B) b rowb
theorem SrcE.eqs {w : World} {B : Nat} {es : Eqs} {A : Option Addr} {l c : Nat} (h : SrcE w B es A) (hl : es.length = l) (hc : l ≤ c) (hm : c ≤ maxLen) : EqsAt w Any es A l c :=
  ⟨hl, hc, hm, fun i a b hi => by
    obtain ⟨bl, off, Cs, t, fr, rowa, rowb, h1, h3, h4, h5, h6, h7⟩ := h i a b hi
    exact ⟨bl, off, Cs, t, fr, rowa, rowb, h1, trivial, h3, h4, h5, h6.weak fun _ _ => trivial, h7.weak fun _ _ => trivial⟩⟩
theorem EqsAt.src {w : World} {D : Nat → Prop} {B : Nat} {es : Eqs} {A : Option Addr} {l c : Nat} (h : EqsAt w D es A l c) (hD : ∀ b, D b → b < B) : SrcE w B es A := fun i a b hi => by
  obtain ⟨bl, off, Cs, t, fr, rowa, rowb, h1, h2, h3, h4, h5, h6, h7⟩ := h.el i a b hi
  exact ⟨bl, off, Cs, t, fr, rowa, rowb, h1, h3, h4, h5, h6.weak hD, h7.weak hD⟩
theorem SrcE.take {w : World} {B : Nat} {es : Eqs} {A : Option Addr} (h : SrcE w B es A) (k : Nat) : SrcE w B (es.take k) A := fun i a b hi => h i a b (by
  rw [List.getElem?_take] at hi
  split at hi
  · exact hi
  · cases hi)
theorem SrcE.drop {w : World} {B : Nat} {es : Eqs} {bl off : Nat} (h : SrcE w B es (some ⟨bl, off, none⟩)) (k : Nat) : SrcE w B (es.drop k) (some ⟨bl, off + k * 8, none⟩) := fun i a b hi => by
  rw [List.getElem?_drop] at hi
  obtain ⟨bl', off', Cs, t, fr, rowa, rowb, h1, h3, h4, h5, h6, h7⟩ := h _ a b hi
  cases h1
  exact ⟨bl, off + k * 8, Cs, t, fr, rowa, rowb, rfl, h3, by rw [← h4]; congr 1 <;> omega, by rw [← h5]; congr 1 <;> omega, h6, h7⟩
/-- Its cells. -/
theorem SrcE.cells {w : World} {B : Nat} {es : Eqs} {bl off : Nat} (h : SrcE w B es (some ⟨bl, off, none⟩)) (hne : 0 < es.length) : ∃ news : List Value, news.length = es.length * 8 ∧ (∀ j u, news[j]? = some u → w.cell? (Addr.add ⟨bl, off, none⟩ j) = some u) ∧ (∀ u, u ∈ news → u.oneCell' = true) ∧
    ∀ i a b, es[i]? = some (a, b) → TyAt w (fun b => b < B) a ((news.drop (i * 8)).take 4).toArray ∧ TyAt w (fun b => b < B) b ((news.drop (i * 8 + 4)).take 4).toArray := by
  obtain ⟨bl0, off0, Cs, t, fr, rowa, rowb, h1, h3, -⟩ := h 0 _ _ (List.getElem?_eq_getElem hne)
  cases h1
  have hsz : off + es.length * 8 ≤ Cs.size := by
    have hlast : es.length - 1 < es.length := by omega
    obtain ⟨bl1, off1, Cs1, t1, fr1, ra, rb, k1, k3, k4, k5, k6, k7⟩ := h (es.length - 1) _ _ (List.getElem?_eq_getElem hlast)
    cases k1
    rw [h3] at k3
    cases k3
    have := k7.size
    rw [← k5] at this
    simp at this
    omega
  have hpart : ∀ i a b, es[i]? = some (a, b) → ((((Cs.toList.drop off).take (es.length * 8)).drop (i * 8)).take 4).toArray = Cs.extract (off + i * 8) (off + i * 8 + 4) ∧ ((((Cs.toList.drop off).take (es.length * 8)).drop (i * 8 + 4)).take 4).toArray = Cs.extract (off + i * 8 + 4) (off + i * 8 + 8) := fun i a b hi => by
    have hil := (List.getElem?_eq_some_iff.1 hi).1
    have key : ∀ m, m + 4 ≤ es.length * 8 → ((((Cs.toList.drop off).take (es.length * 8)).drop m).take 4).toArray = Cs.extract (off + m) (off + m + 4) := fun m hm => by
      apply Array.ext_getElem?
      intro j
      rw [Array.getElem?_extract]
      simp only [List.getElem?_toArray]
      by_cases hj : j < 4
      · rw [List.getElem?_take_of_lt hj, List.getElem?_drop, List.getElem?_take_of_lt (by omega), List.getElem?_drop, Array.getElem?_toList, if_pos (by omega)]
        congr 1; omega
      · rw [List.getElem?_eq_none (by simp; omega), if_neg (by omega)]
    exact ⟨by rw [key _ (by omega)], by rw [key _ (by omega)]; congr 1 <;> omega⟩
  refine ⟨(Cs.toList.drop off).take (es.length * 8), by simp; omega, fun j u hj => ?_, fun u hu => ?_, fun i a b hi => ?_⟩
  · have hj8 : j < es.length * 8 := by
      have := (List.getElem?_eq_some_iff.1 hj).1
      simp at this; omega
    rw [List.getElem?_take_of_lt hj8, List.getElem?_drop, Array.getElem?_toList] at hj
    rw [Addr.add_mid, cell_of_row _ _ _ _ _ _ h3]
    exact hj
  · obtain ⟨j, hj⟩ := List.mem_iff_getElem?.1 hu
    have hj8 : j < es.length * 8 := by
      have := (List.getElem?_eq_some_iff.1 hj).1
      simp at this; omega
    have hi : j / 8 < es.length := by omega
    obtain ⟨⟨a, b⟩, hab⟩ : ∃ p, es[j / 8]? = some p := ⟨_, List.getElem?_eq_getElem hi⟩
    obtain ⟨bl1, off1, Cs1, t1, fr1, ra, rb, k1, k3, k4, k5, k6, k7⟩ := h (j / 8) a b hab
    cases k1
    rw [h3] at k3
    cases k3
    rw [List.getElem?_take_of_lt hj8, List.getElem?_drop, Array.getElem?_toList] at hj
    have one4 : ∀ {x : Ty} {row : Array Value} {i : Nat} {u : Value}, TyAt w (fun b => b < B) x row → row[i]? = some u → u.oneCell' = true := fun {x row i u} hx hu => by
      obtain ⟨k, s, n, A, l, c, rfl⟩ := row4 hx
      have := Array.mem_of_getElem? hu
      simp [cell4] at this
      rcases this with rfl | rfl | rfl | rfl <;> rfl
    by_cases h4 : j % 8 < 4
    · refine one4 (i := j % 8) k6 ?_
      rw [← k4, Array.getElem?_extract, if_pos (by omega), ← hj]
      congr 1; omega
    · refine one4 (i := j % 8 - 4) k7 ?_
      rw [← k5, Array.getElem?_extract, if_pos (by omega), ← hj]
      congr 1; omega
  · obtain ⟨bl1, off1, Cs1, t1, fr1, ra, rb, k1, k3, k4, k5, k6, k7⟩ := h i a b hi
    cases k1
    rw [h3] at k3
    cases k3
    obtain ⟨g1, g2⟩ := hpart i a b hi
    rw [g1, g2, k4, k5]
    exact ⟨k6, k7⟩
/-- A list of pairs of the call's own, its trees below B. -/
def OwnE (w : World) (B : Nat) (v : Value) (es : Eqs) : Prop := ∃ xs, w.ownsRow B 58 8 v es.length xs ∧ ∀ i a b, es[i]? = some (a, b) → TyAt w (fun b => b < B) a ((xs.drop (i * 8)).take 4).toArray ∧ TyAt w (fun b => b < B) b ((xs.drop (i * 8 + 4)).take 4).toArray
theorem OwnE.lt {w : World} {B : Nat} {v : Value} {es : Eqs} (h : OwnE w B v es) : ∀ b, v.ownBlock = some b → B ≤ b ∧ b < w.heap.size := by
  obtain ⟨xs, h1, -⟩ := h
  exact h1.lt
theorem OwnE.old {w w' : World} {B : Nat} {v : Value} {es : Eqs} (h : OwnE w B v es) (hb : Below w.heap.size w w') : OwnE w' B v es := by
  obtain ⟨xs, h1, h2⟩ := h
  exact ⟨xs, own_same h1 fun q hq _ => hb.block q hq, fun i a b hi => ⟨(h2 i a b hi).1.old hb, (h2 i a b hi).2.old hb⟩⟩
theorem OwnE.keep {w w' : World} {B : Nat} {v : Value} {es : Eqs} (h : OwnE w B v es) {C : Nat → Prop} (hk : Keep C w w') (hC : ∀ b, C b → B ≤ b ∧ v.ownBlock ≠ some b) : OwnE w' B v es := by
  obtain ⟨xs, h1, h2⟩ := h
  exact ⟨xs, own_same h1 fun q hq hv => hk.block q hq (fun hc => (hC q hc).2 hv), fun i a b hi => ⟨(h2 i a b hi).1.keep hk fun b hb hc => by have := (hC b hc).1; omega, (h2 i a b hi).2.keep hk fun b hb hc => by have := (hC b hc).1; omega⟩⟩
/-- Read as a row of pairs. -/
theorem OwnE.src {w : World} {B : Nat} {v : Value} {es : Eqs} (h : OwnE w B v es) : ∃ A c, v = .slice A es.length c ∧ SrcE w B es A ∧ es.length ≤ c ∧ c ≤ maxLen ∧ ∀ a, A = some a → ∃ g, a = ⟨g, 0, none⟩ := by
  obtain ⟨xs, h1, h2⟩ := h
  rcases h1.2 with ⟨rfl, hn⟩ | ⟨g, cap, cur, rfl, hB, hg, hc, hm, hs, hcur⟩
  · have : es = [] := by cases es with | nil => rfl | cons => simp at hn
    subst this
    exact ⟨none, 0, rfl, fun i a b hi => by simp at hi, Nat.le_refl _, Nat.zero_le _, fun a h => by cases h⟩
  · refine ⟨some ⟨g, 0, none⟩, cap, rfl, fun i a b hi => ?_, hc, hm, fun a h => by cases h; exact ⟨g, rfl⟩⟩
    have hil := (List.getElem?_eq_some_iff.1 hi).1
    obtain ⟨k1, k2⟩ := h2 i a b hi
    have hmul : es.length * 8 ≤ cap * 8 := Nat.mul_le_mul_right _ hc
    have key : ∀ m, m + 4 ≤ es.length * 8 → ((xs.drop m).take 4).toArray = cur.extract (0 + m) (0 + m + 4) := fun m hm => by
      apply Array.ext_getElem?
      intro j
      rw [Array.getElem?_extract]
      simp only [List.getElem?_toArray]
      by_cases hj : j < 4
      · rw [List.getElem?_take_of_lt hj, List.getElem?_drop, ← hcur, List.getElem?_take_of_lt (by omega), Array.getElem?_toList, if_pos (by omega)]
        congr 1; omega
      · rw [List.getElem?_eq_none (by simp; omega), if_neg (by omega)]
    rw [key _ (by omega)] at k1 k2
    exact ⟨g, 0, cur, 58, (0, 0), _, _, rfl, hg, rfl, by congr 1 <;> omega, k1, k2⟩
theorem info58b : (Tryd.prog.info? 58).map (fun i => (i.zero, i.size, i.bytes)) = some (some (.agg (cell8 0 ⟨#[]⟩ 0 none 0 0 0 ⟨#[]⟩ 0 none 0 0)), 8, 112) := by kernel_rfl
/-- An append of a row of pairs. -/
theorem run_catE {w : World} {B : Nat} {v : Value} {es fs : Eqs} (oty : TypeId) (h : OwnE w B v es) {A : Option Addr} {c : Nat} (hs : SrcE w B fs A) (hn : es.length + fs.length ≤ 1000000) (hB : B ≤ w.heap.size) (hAn : A = none → fs = [] ∧ c = 0) :
    ∃ v' w', (Builtin.append_ #[53, 53] oty #[v, .slice A fs.length c]).run Tryd.prog w = .ok v' w' ∧ OwnE w' B v' (es ++ fs) ∧ Keep (fun b => v.ownBlock = some b) w w' ∧ (v'.ownBlock = v.ownBlock ∨ v'.ownBlock = some w.heap.size) := by
  obtain ⟨i0, hi, hz0, hz1, hz2⟩ := info_parts info58b
  obtain ⟨xs, h1, h2⟩ := h
  have fin : ∀ {v' : Value} {w' : World} {news : List Value}, news.length = fs.length * 8 → (∀ i a b, fs[i]? = some (a, b) → TyAt w (fun b => b < B) a ((news.drop (i * 8)).take 4).toArray ∧ TyAt w (fun b => b < B) b ((news.drop (i * 8 + 4)).take 4).toArray) → w'.ownsRow B 58 8 v' (es.length + fs.length) (xs ++ news) → w.grownBy w' v.ownBlock → OwnE w' B v' (es ++ fs) := fun {v' w' news} hl hn ho hg => by
    have hxs : xs.length = es.length * 8 := h1.1
    have key : ∀ {x : Ty} {row : Array Value}, TyAt w (fun b => b < B) x row → TyAt w' (fun b => b < B) x row := fun h => h.mono (fun _ h => h) fun b hb => hg.block b (by omega) (fun e => by have := (h1.lt b e.symm).1; omega)
    refine ⟨xs ++ news, by rw [List.length_append]; exact ho, fun i a b hi => ?_⟩
    rcases Nat.lt_or_ge i es.length with hlt | hge
    · rw [List.getElem?_append_left hlt] at hi
      obtain ⟨k1, k2⟩ := h2 i a b hi
      rw [List.drop_append_of_le_length (by omega), List.drop_append_of_le_length (by omega), List.take_append_of_le_length (by simp; omega), List.take_append_of_le_length (by simp; omega)]
      exact ⟨key k1, key k2⟩
    · rw [List.getElem?_append_right hge] at hi
      obtain ⟨k1, k2⟩ := hn _ a b hi
      rw [List.drop_append, List.drop_append, List.drop_of_length_le (show xs.length ≤ i * 8 by omega), List.drop_of_length_le (show xs.length ≤ i * 8 + 4 by omega), List.nil_append, List.nil_append]
      rw [show i * 8 - xs.length = (i - es.length) * 8 by omega, show i * 8 + 4 - xs.length = (i - es.length) * 8 + 4 by omega]
      exact ⟨key k1, key k2⟩
  have keepOf : ∀ {w' : World}, w.grownBy w' v.ownBlock → Keep (fun b => v.ownBlock = some b) w w' := fun hg => ⟨hg.os, hg.tape, hg.output, hg.size, fun b hb hne => hg.block b hb (fun e => hne e.symm)⟩
  have rest : ∀ (a : Addr) (news : List Value), A = some a → news.length = fs.length * 8 → (∀ j u, news[j]? = some u → w.cell? (a.add j) = some u) → (∀ u, u ∈ news → u.oneCell' = true) → (∀ i a b, fs[i]? = some (a, b) → TyAt w (fun b => b < B) a ((news.drop (i * 8)).take 4).toArray ∧ TyAt w (fun b => b < B) b ((news.drop (i * 8 + 4)).take 4).toArray) →
      ∃ v' w', (Builtin.append_ #[53, 53] oty #[v, .slice A fs.length c]).run Tryd.prog w = .ok v' w' ∧ OwnE w' B v' (es ++ fs) ∧ Keep (fun b => v.ownBlock = some b) w w' ∧ (v'.ownBlock = v.ownBlock ∨ v'.ownBlock = some w.heap.size) := fun a news hAe hl hc h1' hn' => by
    subst hAe
    obtain ⟨v', w', hr, g2, g3, -, g5⟩ := run_append_own_at (P := Tryd.prog) w B 53 oty 58 i0 _ 8 112 u53 hi hz0 hz1 hz2 rfl (by decide) v es.length xs h1 a fs.length c news hl hc h1' (by unfold maxLen; omega) (by omega) hB
    exact ⟨v', w', hr, fin hl hn' g2 g3, keepOf g3, g5⟩
  by_cases hf : fs = []
  · subst hf
    cases A with
    | none =>
      obtain rfl := (hAn rfl).2
      have hr := run_append_owned_none (P := Tryd.prog) w B 53 oty 58 i0 8 u53 hi v es.length xs h1
      exact ⟨v, w, hr, by rw [List.append_nil]; exact ⟨xs, h1, h2⟩, Keep.refl _ _, .inl rfl⟩
    | some a => exact rest a [] rfl rfl (fun j u h => by simp at h) (fun u h => by simp at h) (fun i a b h => by simp at h)
  · have hne : 0 < fs.length := List.length_pos_iff.2 hf
    obtain ⟨bl, off, Cs, t, fr, rowa, rowb, hAe, -⟩ := hs 0 _ _ (List.getElem?_eq_getElem hne)
    subst hAe
    obtain ⟨news, g1, g2, g3, g4⟩ := hs.cells hne
    exact rest _ news rfl g1 g2 g3 g4
section
variable {ops : Array Oper} {rest : List Oper} {o : Oper} {a : Act} {w : World} {Q : Exit → Act → World → Prop}
theorem wl_catE (hg : o.guard = none) (s x : Operand) (ho : o.op = .call { callee := .builtin .append, args := #[s, x], argTypes := #[53, 53] }) {B : Nat} {v : Value} {es fs : Eqs} {A : Option Addr} {m c : Nat}
    (hs : a.eval s = v) (hx : a.eval x = .slice A m c) (h : OwnE w B v es) (hsrc : SrcE w B fs A) (hm : fs.length = m) (hAn : A = none → fs = [] ∧ c = 0) (hn : es.length + fs.length ≤ 1000000) (hB : B ≤ w.heap.size)
    (hK : ∀ v' w', OwnE w' B v' (es ++ fs) → Keep (fun b => v.ownBlock = some b) w w' → (v'.ownBlock = v.ownBlock ∨ v'.ownBlock = some w.heap.size) → wpList Tryd.prog ops Q rest (a.put o.dst v') w') : wpList Tryd.prog ops Q (o :: rest) a w := by
  subst hm
  obtain ⟨v', w', hr, h2, h3, h4⟩ := run_catE o.type h hsrc hn hB hAn
  refine wl_w hg ?_ (hK v' w' h2 h3 h4)
  unfold execOp
  simp only [ho, resolve, invoke, builtin, Sem.run_bind, Sem.run_pure, Result.andThen_ok, List.map_toArray, List.map_cons, List.map_nil, hs, hx, hr]
end
section
variable {md : Region.Mode} {ops : Array Oper} {Q : Exit → Act → World → Prop} {S : World → Prop} {fuel : Nat} {listed : Array Bool} {a : Act} {w : World} {i : Nat} {oi : Oper}
theorem ha_catE (hr : Region.ready md ops listed = [i]) (ho : ops[i]? = some oi) (hg : Region.wanted oi (yielded ops a.tmps) = true) (s x : Operand) (hop : oi.op = .call { callee := .builtin .append, args := #[s, x], argTypes := #[53, 53] }) {B : Nat} {v : Value} {es fs : Eqs} {A : Option Addr} {m c : Nat}
    (hs : a.eval s = v) (hx : a.eval x = .slice A m c) (h : OwnE w B v es) (hsrc : SrcE w B fs A) (hm : fs.length = m) (hAn : A = none → fs = [] ∧ c = 0) (hn : es.length + fs.length ≤ 1000000) (hB : B ≤ w.heap.size)
    (hS : ∀ w', Keep (fun b => v.ownBlock = some b) w w' → S w')
    (hK : ∀ v' w', OwnE w' B v' (es ++ fs) → Keep (fun b => v.ownBlock = some b) w w' → (v'.ownBlock = v.ownBlock ∨ v'.ownBlock = some w.heap.size) → S w' → wpAnyH Tryd.prog md ops Q S fuel (listed.setIfInBounds i true) (a.put oi.dst v') w') : wpAnyH Tryd.prog md ops Q S (fuel + 1) listed a w := by
  subst hm
  obtain ⟨v', w', hx2, h2, h3, h4⟩ := run_catE oi.type h hsrc hn hB hAn
  refine ha_do hr ho hg (w2 := w') (v := v') ?_ (hS w' h3) (hK v' w' h2 h3 h4 (hS w' h3))
  unfold execOp
  simp only [hop, resolve, invoke, builtin, Sem.run_bind, Sem.run_pure, Result.andThen_ok, List.map_toArray, List.map_cons, List.map_nil, hs, hx, hx2]
end
end Go.Proofs.YtokmaehefenpmaaDoor
namespace Go.Proofs.YtokmaehefenpmaaDoor
open Go.RowKit Go.ChangeMaps Go.Proofs.YtokmaehefenpmaaDoor.Nm
set_option linter.unusedSimpArgs false
theorem run_bs0 (w : World) : (Instr.buildSlice 53 0 #[]).run Tryd.prog w = .ok (.slice (some ⟨w.heap.size, 0, none⟩) 0 0) (w.alloc (.cells #[] 58)) := by kernel_rfl
theorem run_bs1 (k : Int) (s : ByteArray) (n : Int) (A : Option Addr) (l c : Nat) (k' : Int) (s' : ByteArray) (n' : Int) (A' : Option Addr) (l' c' : Nat) (w : World) : (Instr.buildSlice 53 1 #[(0, .agg (cell8 k s n A l c k' s' n' A' l' c'))]).run Tryd.prog w = .ok (.slice (some ⟨w.heap.size, 0, none⟩) 1 1) (w.alloc (.cells (cell8 k s n A l c k' s' n' A' l' c') 58)) := by kernel_rfl
theorem own_none {w : World} {B p : Nat} (hp : w.heap[p]? = some (.cells #[] 58 (0, 0))) (hB : B ≤ p) : OwnE w B (.slice (some ⟨p, 0, none⟩) 0 0) [] :=
  ⟨[], ⟨rfl, .inr ⟨p, 0, #[], rfl, hB, hp, Nat.le_refl _, Nat.zero_le _, rfl, rfl⟩⟩, fun i a b h => by simp at h⟩
theorem own_nil (w : World) (B : Nat) : OwnE w B (.slice none 0 0) [] := ⟨[], World.ownsRow_nil _ _ _ _, fun i a b h => by simp at h⟩
theorem src_one {w : World} {B p : Nat} {k : Int} {s : ByteArray} {n : Int} {A : Option Addr} {l c : Nat} {k' : Int} {s' : ByteArray} {n' : Int} {A' : Option Addr} {l' c' : Nat} {t u : Ty} (hp : w.heap[p]? = some (.cells (cell8 k s n A l c k' s' n' A' l' c') 58 (0, 0))) (ht : TyAt w (fun b => b < B) t (cell4 k s n A l c)) (hu : TyAt w (fun b => b < B) u (cell4 k' s' n' A' l' c')) : SrcE w B [(t, u)] (some ⟨p, 0, none⟩) := fun i a b hi => by
  rcases i with _ | i
  · cases hi
    exact ⟨p, 0, _, _, _, _, _, rfl, hp, rfl, rfl, ht, hu⟩
  · simp at hi
theorem run_hi {A : Option Addr} {l c k : Nat} (hk : k ≤ c) (w : World) : (Instr.slice 53 (.slice A l c) none (some (.int .i64 (k : Int))) none).run Tryd.prog w = .ok (.slice A k c) w := by
  have h0 : (0 : Int) ≤ (k : Int) := by omega
  have h1 : (k : Int) ≤ (c : Int) := by omega
  have hz : (sizeOf 58).run Tryd.prog w = .ok 8 w := by kernel_rfl
  unfold Instr.slice Instr.sliceBounds
  simp [Sem.run_bind, run_underlying u53, run_sliceBound w .i64 (k : Int) c _ h0 h1, Result.andThen, hz]
  cases A with
  | none => simp
  | some a => simp [Addr.add]
theorem run_lo {A : Option Addr} {l c k : Nat} (hk : k ≤ l) (w : World) : (Instr.slice 53 (.slice A l c) (some (.int .i64 (k : Int))) none none).run Tryd.prog w = .ok (.slice (if c = k then A else A.map (·.add (k * 8))) (l - k) (c - k)) w := by
  have h0 : (0 : Int) ≤ (k : Int) := by omega
  have h1 : (k : Int) ≤ (l : Int) := by omega
  have hz : (sizeOf 58).run Tryd.prog w = .ok 8 w := by kernel_rfl
  unfold Instr.slice Instr.sliceBounds
  simp [Sem.run_bind, run_underlying u53, run_sliceBound w .i64 (k : Int) l _ h0 h1, Result.andThen, hz]
theorem run_at (x : Value) (lo hi mx : Option Value) (w : World) : (Instr.sliceAt 53 x lo hi mx).run Tryd.prog w = (Instr.slice 53 x lo hi mx).run Tryd.prog w := by
  unfold Instr.sliceAt
  simp [Sem.run_bind, run_underlying u53, Result.andThen]
/-- What is left behind place k. -/
theorem SrcE.lo {w : World} {B : Nat} {es : Eqs} {A : Option Addr} {c k : Nat} (h : SrcE w B es A) (hc : es.length ≤ c) (hg : ∀ a, A = some a → ∃ g, a = ⟨g, 0, none⟩) : SrcE w B (es.drop k) (if c = k then A else A.map (·.add (k * 8))) := by
  by_cases e : c = k
  · rw [if_pos e, List.drop_of_length_le (by omega)]
    exact fun i a b h => by simp at h
  · rw [if_neg e]
    cases A with
    | none =>
      cases hd : es.drop k with
      | nil => exact fun i a b h => by simp at h
      | cons p l =>
        have hl : 0 < es.length := by
          have := congrArg List.length hd
          simp at this; omega
        obtain ⟨bl, off, Cs, t, fr, rowa, rowb, hAe, -⟩ := h 0 _ _ (List.getElem?_eq_getElem hl)
        cases hAe
    | some a =>
      obtain ⟨g, rfl⟩ := hg a rfl
      have := h.drop k
      rw [Option.map_some, Addr.add_mid]
      exact this
section
variable {ops : Array Oper} {rest : List Oper} {dst : Option Tmp} {ty ty' : TypeId} {x y : Operand} {pos : String} {after : Array Edge} {a : Act} {w : World} {Q : Exit → Act → World → Prop}
theorem wl_bs0 (h : ∀ W p, Below w.heap.size w W → w.heap.size ≤ p → W.heap[p]? = some (.cells #[] 58 (0, 0)) → wpList Tryd.prog ops Q rest (a.put dst (.slice (some ⟨p, 0, none⟩) 0 0)) W) : wpList Tryd.prog ops Q (⟨dst, .buildSlice 53 0 #[], ty', pos, after, none⟩ :: rest) a w :=
  wl_w rfl (by unfold execOp; have := run_bs0 w; simp [this, Result.andThen]) (h _ _ ((Below.refl _ w).alloc (Nat.le_refl _) _) (Nat.le_refl _) (ha_new rfl))
theorem wl_bs1 {k : Int} {s : ByteArray} {n : Int} {A : Option Addr} {l c : Nat} {k' : Int} {s' : ByteArray} {n' : Int} {A' : Option Addr} {l' c' : Nat} (hx : a.eval x = .agg (cell8 k s n A l c k' s' n' A' l' c')) (h : ∀ W p, Below w.heap.size w W → w.heap.size ≤ p → W.heap[p]? = some (.cells (cell8 k s n A l c k' s' n' A' l' c') 58 (0, 0)) → wpList Tryd.prog ops Q rest (a.put dst (.slice (some ⟨p, 0, none⟩) 1 1)) W) : wpList Tryd.prog ops Q (⟨dst, .buildSlice 53 1 #[(0, x)], ty', pos, after, none⟩ :: rest) a w :=
  wl_w rfl (by unfold execOp; have := run_bs1 k s n A l c k' s' n' A' l' c' w; simp [hx, this, Result.andThen]) (h _ _ ((Below.refl _ w).alloc (Nat.le_refl _) _) (Nat.le_refl _) (ha_new rfl))
end
section
variable {md : Region.Mode} {ops : Array Oper} {Q : Exit → Act → World → Prop} {S : World → Prop} {fuel : Nat} {listed : Array Bool} {a : Act} {w : World} {i : Nat} {oi : Oper}
theorem ha_bs0 (hr : Region.ready md ops listed = [i]) (ho : ops[i]? = some oi) (hg : Region.wanted oi (yielded ops a.tmps) = true) (hop : oi.op = .buildSlice 53 0 #[]) (hS : ∀ W, Below w.heap.size w W → S W)
    (h : ∀ W p, Below w.heap.size w W → w.heap.size ≤ p → W.heap[p]? = some (.cells #[] 58 (0, 0)) → S W → wpAnyH Tryd.prog md ops Q S fuel (listed.setIfInBounds i true) (a.put oi.dst (.slice (some ⟨p, 0, none⟩) 0 0)) W) : wpAnyH Tryd.prog md ops Q S (fuel + 1) listed a w :=
  have hb := (Below.refl _ w).alloc (Nat.le_refl _) (.cells #[] 58)
  ha_do hr ho hg (by unfold execOp; have := run_bs0 w; simp [hop, this, Result.andThen]) (hS _ hb) (h _ _ hb (Nat.le_refl _) (ha_new rfl) (hS _ hb))
theorem ex_hi {ev : Operand → Value} {o : Oper} (x y : Operand) (ho : o.op = .slice 53 x none (some y) none) {A : Option Addr} {l c k : Nat} (hx : ev x = .slice A l c) (hy : ev y = .int .i64 (k : Int)) (hk : k ≤ c) (w : World) : (execOp ev o).run Tryd.prog w = .ok (.value (.slice A k c)) w := by
  unfold execOp
  have := run_hi (A := A) (l := l) hk w
  simp [ho, hx, hy, run_at, this, Result.andThen]
theorem ex_lo {ev : Operand → Value} {o : Oper} (x y : Operand) (ho : o.op = .slice 53 x (some y) none none) {A : Option Addr} {l c k : Nat} (hx : ev x = .slice A l c) (hy : ev y = .int .i64 (k : Int)) (hk : k ≤ l) (w : World) : (execOp ev o).run Tryd.prog w = .ok (.value (.slice (if c = k then A else A.map (·.add (k * 8))) (l - k) (c - k))) w := by
  unfold execOp
  have := run_lo (A := A) (c := c) hk w
  simp [ho, hx, hy, run_at, this, Result.andThen]
end
end Go.Proofs.YtokmaehefenpmaaDoor
